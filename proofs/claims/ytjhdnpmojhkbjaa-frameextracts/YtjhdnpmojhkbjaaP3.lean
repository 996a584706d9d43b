/- Calls at given values. Printed by facts.py. -/
import Derived.Test.YtjhdnpmojhkbjaaA1
import Derived.KernelRfl
namespace Go.Proofs.Ytjhdnpmojhkbjaa
set_option maxRecDepth 1000000
def iN (n : Int) : AV := .int .i64 n
def Fact.ok (q : Fact) : Prop := Pure Try.prog q.f q.args q.r q.fr
theorem fct {q : Fact} (l : List Fact) (h : FactsOK Try.prog l) (hk : runS quick tab (conL l) 100000 q.f q.args = some (true, q.r, q.fr)) : q.ok := fact_of follows tab_ok h hk
def q0 : Fact := ⟨86, [(.bool true), (iN 10)], (iN 0), none⟩
theorem q0_ok : q0.ok := fct [] trivial (by kernel_rfl)
def q1 : Fact := ⟨86, [(.bool true), (iN 8)], (iN 0), none⟩
theorem q1_ok : q1.ok := fct [] trivial (by kernel_rfl)
def q2 : Fact := ⟨87, [(iN 1), (iN 0), (iN 255)], (.bool true), none⟩
theorem q2_ok : q2.ok := fct [] trivial (by kernel_rfl)
def q3 : Fact := ⟨93, [(iN 1)], (.bool true), none⟩
theorem q3_ok : q3.ok := fct [q2] ⟨q2_ok, trivial⟩ (by kernel_rfl)
def q4 : Fact := ⟨86, [(.bool true), (iN 2)], (iN 0), none⟩
theorem q4_ok : q4.ok := fct [] trivial (by kernel_rfl)
def q5 : Fact := ⟨128, [(iN 1)], (iN 0), none⟩
theorem q5_ok : q5.ok := fct [q3, q4] ⟨q3_ok, q4_ok, trivial⟩ (by kernel_rfl)
def q6 : Fact := ⟨87, [(iN 5), (iN 0), (iN 255)], (.bool true), none⟩
theorem q6_ok : q6.ok := fct [] trivial (by kernel_rfl)
def q7 : Fact := ⟨93, [(iN 5)], (.bool true), none⟩
theorem q7_ok : q7.ok := fct [q6] ⟨q6_ok, trivial⟩ (by kernel_rfl)
def q8 : Fact := ⟨128, [(iN 5)], (iN 0), none⟩
theorem q8_ok : q8.ok := fct [q7, q4] ⟨q7_ok, q4_ok, trivial⟩ (by kernel_rfl)
def q9 : Fact := ⟨87, [(iN 0), (iN 0), (iN 255)], (.bool true), none⟩
theorem q9_ok : q9.ok := fct [] trivial (by kernel_rfl)
def q10 : Fact := ⟨93, [(iN 0)], (.bool true), none⟩
theorem q10_ok : q10.ok := fct [q9] ⟨q9_ok, trivial⟩ (by kernel_rfl)
def q11 : Fact := ⟨128, [(iN 0)], (iN 0), none⟩
theorem q11_ok : q11.ok := fct [q10, q4] ⟨q10_ok, q4_ok, trivial⟩ (by kernel_rfl)
def q12 : Fact := ⟨87, [(iN 7), (iN 0), (iN 255)], (.bool true), none⟩
theorem q12_ok : q12.ok := fct [] trivial (by kernel_rfl)
def q13 : Fact := ⟨93, [(iN 7)], (.bool true), none⟩
theorem q13_ok : q13.ok := fct [q12] ⟨q12_ok, trivial⟩ (by kernel_rfl)
def q14 : Fact := ⟨128, [(iN 7)], (iN 0), none⟩
theorem q14_ok : q14.ok := fct [q13, q4] ⟨q13_ok, q4_ok, trivial⟩ (by kernel_rfl)
def q15 : Fact := ⟨87, [(iN 255), (iN 0), (iN 255)], (.bool true), none⟩
theorem q15_ok : q15.ok := fct [] trivial (by kernel_rfl)
def q16 : Fact := ⟨93, [(iN 255)], (.bool true), none⟩
theorem q16_ok : q16.ok := fct [q15] ⟨q15_ok, trivial⟩ (by kernel_rfl)
def q17 : Fact := ⟨128, [(iN 255)], (iN 0), none⟩
theorem q17_ok : q17.ok := fct [q16, q4] ⟨q16_ok, q4_ok, trivial⟩ (by kernel_rfl)
def q18 : Fact := ⟨127, [(.list (.ints .i64 [1, 5, 0, 7, 0, 0, 255])), (.fn 128 [])], (iN 0), none⟩
theorem q18_ok : q18.ok := fct [q5, q8, q11, q14, q17] ⟨q5_ok, q8_ok, q11_ok, q14_ok, q17_ok, trivial⟩ (by kernel_rfl)
def q19 : Fact := ⟨94, [(.list (.ints .i64 [1, 5, 0, 7, 0, 0, 255]))], (iN 0), none⟩
theorem q19_ok : q19.ok := fct [q18] ⟨q18_ok, trivial⟩ (by kernel_rfl)
def q20 : Fact := ⟨84, [(.list (.ints .i64 [0, 0, 0]))], (iN 0), none⟩
theorem q20_ok : q20.ok := fct [] trivial (by kernel_rfl)
def q21 : Fact := ⟨109, [(.list (.ints .i64 [1, 5, 0, 7, 0, 0, 255]))], (.agg (.ints .i64 [18, 76])), none⟩
theorem q21_ok : q21.ok := fct [] trivial (by kernel_rfl)
def q22 : Fact := ⟨60, [(.list (.ints .i64 [1, 5, 0, 7, 0, 0, 255]))], (.tup [(iN 4684), (iN 0)]), none⟩
theorem q22_ok : q22.ok := fct [q0, q1, q19, q20, q21] ⟨q0_ok, q1_ok, q19_ok, q20_ok, q21_ok, trivial⟩ (by kernel_rfl)
def q23 : Fact := ⟨75, [], (.agg (.gen [(iN 4), (iN 2)])), none⟩
theorem q23_ok : q23.ok := fct [] trivial (by kernel_rfl)
def q24 : Fact := ⟨76, [], (.list (.gen [(.agg (.gen [(iN 9), (iN 0), (.list (.ints .i64 [1, 2]))])), (.agg (.gen [(iN 9), (iN 1), (.list (.ints .i64 [3]))]))])), none⟩
theorem q24_ok : q24.ok := fct [] trivial (by kernel_rfl)
def q25 : Fact := ⟨87, [(iN 4), (iN 4), (iN 24)], (.bool true), none⟩
theorem q25_ok : q25.ok := fct [] trivial (by kernel_rfl)
def q26 : Fact := ⟨87, [(iN 2), (iN 1), (iN 4)], (.bool true), none⟩
theorem q26_ok : q26.ok := fct [] trivial (by kernel_rfl)
def q27 : Fact := ⟨63, [(.agg (.gen [(iN 4), (iN 2)]))], (iN 0), none⟩
theorem q27_ok : q27.ok := fct [q25, q26, q4] ⟨q25_ok, q26_ok, q4_ok, trivial⟩ (by kernel_rfl)
def q28 : Fact := ⟨95, [(.agg (.gen [(iN 4), (iN 2)]))], (.tup [(.agg (.gen [(iN 4), (iN 2)])), (iN 0)]), none⟩
theorem q28_ok : q28.ok := fct [q27] ⟨q27_ok, trivial⟩ (by kernel_rfl)
def q29 : Fact := ⟨87, [(iN 0), (iN 0), (iN 1)], (.bool true), none⟩
theorem q29_ok : q29.ok := fct [] trivial (by kernel_rfl)
def q30 : Fact := ⟨86, [(.bool true), (iN 6)], (iN 0), none⟩
theorem q30_ok : q30.ok := fct [] trivial (by kernel_rfl)
def q31 : Fact := ⟨131, [(.agg (.gen [(iN 4), (iN 2)])), (iN 0)], (iN 0), none⟩
theorem q31_ok : q31.ok := fct [q29, q30] ⟨q29_ok, q30_ok, trivial⟩ (by kernel_rfl)
def q32 : Fact := ⟨84, [(.list (.ints .i64 [0, 0]))], (iN 0), none⟩
theorem q32_ok : q32.ok := fct [] trivial (by kernel_rfl)
def q33 : Fact := ⟨99, [(.agg (.gen [(iN 4), (iN 2)])), (iN 0)], (.tup [(.agg (.gen [(iN 4), (iN 2)])), (iN 0)]), none⟩
theorem q33_ok : q33.ok := fct [q28, q31, q32] ⟨q28_ok, q31_ok, q32_ok, trivial⟩ (by kernel_rfl)
def q34 : Fact := ⟨87, [(iN 0), (iN 0), (iN 63)], (.bool true), none⟩
theorem q34_ok : q34.ok := fct [] trivial (by kernel_rfl)
def q35 : Fact := ⟨100, [(iN 0)], (.bool true), none⟩
theorem q35_ok : q35.ok := fct [q34] ⟨q34_ok, trivial⟩ (by kernel_rfl)
def q36 : Fact := ⟨87, [(iN 9), (iN 0), (iN 255)], (.bool true), none⟩
theorem q36_ok : q36.ok := fct [] trivial (by kernel_rfl)
def q37 : Fact := ⟨93, [(iN 9)], (.bool true), none⟩
theorem q37_ok : q37.ok := fct [q36] ⟨q36_ok, trivial⟩ (by kernel_rfl)
def q38 : Fact := ⟨128, [(iN 2)], (iN 0), none⟩
theorem q38_ok : q38.ok := fct [] trivial (by kernel_rfl)
def q39 : Fact := ⟨127, [(.list (.ints .i64 [1, 2])), (.fn 128 [])], (iN 0), none⟩
theorem q39_ok : q39.ok := fct [q5, q38] ⟨q5_ok, q38_ok, trivial⟩ (by kernel_rfl)
def q40 : Fact := ⟨94, [(.list (.ints .i64 [1, 2]))], (iN 0), none⟩
theorem q40_ok : q40.ok := fct [q39] ⟨q39_ok, trivial⟩ (by kernel_rfl)
def q41 : Fact := ⟨30, [(.agg (.gen [(iN 9), (iN 0), (.list (.ints .i64 [1, 2]))]))], (iN 0), none⟩
theorem q41_ok : q41.ok := fct [q37, q10, q4, q1, q40, q20] ⟨q37_ok, q10_ok, q4_ok, q1_ok, q40_ok, q20_ok, trivial⟩ (by kernel_rfl)
def q42 : Fact := ⟨128, [(iN 3)], (iN 0), none⟩
theorem q42_ok : q42.ok := fct [] trivial (by kernel_rfl)
def q43 : Fact := ⟨127, [(.list (.ints .i64 [3])), (.fn 128 [])], (iN 0), none⟩
theorem q43_ok : q43.ok := fct [q42] ⟨q42_ok, trivial⟩ (by kernel_rfl)
def q44 : Fact := ⟨94, [(.list (.ints .i64 [3]))], (iN 0), none⟩
theorem q44_ok : q44.ok := fct [q43] ⟨q43_ok, trivial⟩ (by kernel_rfl)
def q45 : Fact := ⟨30, [(.agg (.gen [(iN 9), (iN 1), (.list (.ints .i64 [3]))]))], (iN 0), none⟩
theorem q45_ok : q45.ok := fct [q37, q3, q4, q1, q44, q20] ⟨q37_ok, q3_ok, q4_ok, q1_ok, q44_ok, q20_ok, trivial⟩ (by kernel_rfl)
def q46 : Fact := ⟨129, [(.list (.gen [(.agg (.gen [(iN 9), (iN 0), (.list (.ints .i64 [1, 2]))])), (.agg (.gen [(iN 9), (iN 1), (.list (.ints .i64 [3]))]))])), (.fn 30 [])], (iN 0), none⟩
theorem q46_ok : q46.ok := fct [q41, q45] ⟨q41_ok, q45_ok, trivial⟩ (by kernel_rfl)
def q47 : Fact := ⟨96, [(.list (.gen [(.agg (.gen [(iN 9), (iN 0), (.list (.ints .i64 [1, 2]))])), (.agg (.gen [(iN 9), (iN 1), (.list (.ints .i64 [3]))]))]))], (iN 0), none⟩
theorem q47_ok : q47.ok := fct [q1, q46, q32] ⟨q1_ok, q46_ok, q32_ok, trivial⟩ (by kernel_rfl)
def q48 : Fact := ⟨130, [(.list (.gen [(.agg (.gen [(iN 9), (iN 0), (.list (.ints .i64 [1, 2]))])), (.agg (.gen [(iN 9), (iN 1), (.list (.ints .i64 [3]))]))]))], (.row 0 0), (some ⟨57, 3, (.gen [(.agg (.gen [(iN 9), (iN 0), (.list (.ints .i64 [1, 2]))])), (.agg (.gen [(iN 9), (iN 1), (.list (.ints .i64 [3]))]))])⟩)⟩
theorem q48_ok : q48.ok := fct [] trivial (by kernel_rfl)
def q49 : Fact := ⟨98, [(.agg (.gen [(iN 4), (iN 2)])), (.list (.gen [(.agg (.gen [(iN 9), (iN 0), (.list (.ints .i64 [1, 2]))])), (.agg (.gen [(iN 9), (iN 1), (.list (.ints .i64 [3]))]))]))], (.row 0 0), (some ⟨57, 3, (.big (.agg [(.int .i64), (.int .i64), (.ints .i64)]) [(.agg (.gen [(iN 9), (iN 0), (.list (.ints .i64 [1, 2]))])), (.agg (.gen [(iN 9), (iN 1), (.list (.ints .i64 [3]))])), (.agg (.gen [(iN 255), (iN 0), (.list (.ints .i64 []))]))])⟩)⟩
theorem q49_ok : q49.ok := fct [q48] ⟨q48_ok, trivial⟩ (by kernel_rfl)
def q50 : Fact := ⟨97, [(.list (.big (.agg [(.int .i64), (.int .i64), (.ints .i64)]) [(.agg (.gen [(iN 9), (iN 0), (.list (.ints .i64 [1, 2]))])), (.agg (.gen [(iN 9), (iN 1), (.list (.ints .i64 [3]))])), (.agg (.gen [(iN 255), (iN 0), (.list (.ints .i64 []))]))]))], (.tup [(.list (.ints .i64 [9, 0, 2, 1, 2, 9, 1, 1, 3, 255, 0, 0])), (.list (.ints .i64 [0, 5, 9]))]), none⟩
theorem q50_ok : q50.ok := fct [] trivial (by kernel_rfl)
def q51 : Fact := ⟨102, [(.list (.ints .i64 [9, 0, 2, 1]))], (.row 0 0), (some ⟨3, 1, (.ints .i64 [9, 0, 2, 1])⟩)⟩
theorem q51_ok : q51.ok := fct [] trivial (by kernel_rfl)
def q52 : Fact := ⟨138, [(iN 5)], (.bool false), none⟩
theorem q52_ok : q52.ok := fct [] trivial (by kernel_rfl)
def q53 : Fact := ⟨133, [(iN 5), (iN 0)], (.bool false), none⟩
theorem q53_ok : q53.ok := fct [q52] ⟨q52_ok, trivial⟩ (by kernel_rfl)
def q54 : Fact := ⟨138, [(iN 0)], (.bool false), none⟩
theorem q54_ok : q54.ok := fct [] trivial (by kernel_rfl)
def q55 : Fact := ⟨133, [(iN 0), (iN 0)], (.bool false), none⟩
theorem q55_ok : q55.ok := fct [q54] ⟨q54_ok, trivial⟩ (by kernel_rfl)
def q56 : Fact := ⟨103, [(.list (.ints .i64 [0, 5, 9])), (iN 0)], (.tup [(iN 0), (.bool true)]), none⟩
theorem q56_ok : q56.ok := fct [q53, q55] ⟨q53_ok, q55_ok, trivial⟩ (by kernel_rfl)
def q57 : Fact := ⟨102, [(.list (.ints .i64 [2, 9, 1, 1]))], (.row 0 0), (some ⟨3, 1, (.ints .i64 [2, 9, 1, 1])⟩)⟩
theorem q57_ok : q57.ok := fct [] trivial (by kernel_rfl)
def q58 : Fact := ⟨133, [(iN 5), (iN 4)], (.bool false), none⟩
theorem q58_ok : q58.ok := fct [q52] ⟨q52_ok, trivial⟩ (by kernel_rfl)
def q59 : Fact := ⟨133, [(iN 0), (iN 4)], (.bool true), none⟩
theorem q59_ok : q59.ok := fct [q54] ⟨q54_ok, trivial⟩ (by kernel_rfl)
def q60 : Fact := ⟨134, [(iN 5)], (.bool false), none⟩
theorem q60_ok : q60.ok := fct [] trivial (by kernel_rfl)
def q61 : Fact := ⟨103, [(.list (.ints .i64 [0, 5, 9])), (iN 4)], (.tup [(iN 1), (.bool false)]), none⟩
theorem q61_ok : q61.ok := fct [q58, q59, q60] ⟨q58_ok, q59_ok, q60_ok, trivial⟩ (by kernel_rfl)
def q62 : Fact := ⟨102, [(.list (.ints .i64 [3, 255, 0, 0]))], (.row 0 0), (some ⟨3, 1, (.ints .i64 [3, 255, 0, 0])⟩)⟩
theorem q62_ok : q62.ok := fct [] trivial (by kernel_rfl)
def q63 : Fact := ⟨133, [(iN 5), (iN 8)], (.bool true), none⟩
theorem q63_ok : q63.ok := fct [q52] ⟨q52_ok, trivial⟩ (by kernel_rfl)
def q64 : Fact := ⟨138, [(iN 9)], (.bool false), none⟩
theorem q64_ok : q64.ok := fct [] trivial (by kernel_rfl)
def q65 : Fact := ⟨133, [(iN 9), (iN 8)], (.bool false), none⟩
theorem q65_ok : q65.ok := fct [q64] ⟨q64_ok, trivial⟩ (by kernel_rfl)
def q66 : Fact := ⟨134, [(iN 9)], (.bool false), none⟩
theorem q66_ok : q66.ok := fct [] trivial (by kernel_rfl)
def q67 : Fact := ⟨103, [(.list (.ints .i64 [0, 5, 9])), (iN 8)], (.tup [(iN 2), (.bool false)]), none⟩
theorem q67_ok : q67.ok := fct [q63, q65, q66] ⟨q63_ok, q65_ok, q66_ok, trivial⟩ (by kernel_rfl)
def q68 : Fact := ⟨35, [(.agg (.gen [(iN 4), (iN 2)])), (.agg (.gen [(iN 0), (iN 0)])), (.list (.gen [(.agg (.gen [(iN 9), (iN 0), (.list (.ints .i64 [1, 2]))])), (.agg (.gen [(iN 9), (iN 1), (.list (.ints .i64 [3]))]))]))], (.tup [(.list (.gen [(.agg (.gen [(iN 0), (iN 0), (iN 0), (.list (.ints .i64 [9, 0, 2, 1]))])), (.agg (.gen [(iN 0), (iN 1), (iN 1), (.list (.ints .i64 [2, 9, 1, 1]))])), (.agg (.gen [(iN 0), (iN 2), (iN 1), (.list (.ints .i64 [3, 255, 0, 0]))]))])), (iN 0)]), none⟩
theorem q68_ok : q68.ok := fct [q33, q35, q4, q47, q20, q49, q50, q51, q56, q57, q61, q62, q67] ⟨q33_ok, q35_ok, q4_ok, q47_ok, q20_ok, q49_ok, q50_ok, q51_ok, q56_ok, q57_ok, q61_ok, q62_ok, q67_ok, trivial⟩ (by kernel_rfl)
def q69 : Fact := ⟨55, [(.list (.ints .i64 [9, 0, 2, 1]))], (.row 0 0), (some ⟨3, 1, (.ints .i64 [9, 0, 2, 1])⟩)⟩
theorem q69_ok : q69.ok := fct [] trivial (by kernel_rfl)
def q70 : Fact := ⟨40, [(.agg (.gen [(iN 0), (iN 0), (iN 0), (.list (.ints .i64 [9, 0, 2, 1]))]))], (.agg (.gen [(iN 0), (iN 0), (iN 0), (.list (.ints .i64 [9, 0, 2, 1]))])), none⟩
theorem q70_ok : q70.ok := fct [q69] ⟨q69_ok, trivial⟩ (by kernel_rfl)
def q71 : Fact := ⟨55, [(.list (.ints .i64 [2, 9, 1, 1]))], (.row 0 0), (some ⟨3, 1, (.ints .i64 [2, 9, 1, 1])⟩)⟩
theorem q71_ok : q71.ok := fct [] trivial (by kernel_rfl)
def q72 : Fact := ⟨40, [(.agg (.gen [(iN 0), (iN 1), (iN 1), (.list (.ints .i64 [2, 9, 1, 1]))]))], (.agg (.gen [(iN 0), (iN 1), (iN 1), (.list (.ints .i64 [2, 9, 1, 1]))])), none⟩
theorem q72_ok : q72.ok := fct [q71] ⟨q71_ok, trivial⟩ (by kernel_rfl)
def q73 : Fact := ⟨55, [(.list (.ints .i64 [3, 255, 0, 0]))], (.row 0 0), (some ⟨3, 1, (.ints .i64 [3, 255, 0, 0])⟩)⟩
theorem q73_ok : q73.ok := fct [] trivial (by kernel_rfl)
def q74 : Fact := ⟨40, [(.agg (.gen [(iN 0), (iN 2), (iN 1), (.list (.ints .i64 [3, 255, 0, 0]))]))], (.agg (.gen [(iN 0), (iN 2), (iN 1), (.list (.ints .i64 [3, 255, 0, 0]))])), none⟩
theorem q74_ok : q74.ok := fct [q73] ⟨q73_ok, trivial⟩ (by kernel_rfl)
def q75 : Fact := ⟨17, [(.list (.gen [(.agg (.gen [(iN 0), (iN 0), (iN 0), (.list (.ints .i64 [9, 0, 2, 1]))])), (.agg (.gen [(iN 0), (iN 1), (iN 1), (.list (.ints .i64 [2, 9, 1, 1]))])), (.agg (.gen [(iN 0), (iN 2), (iN 1), (.list (.ints .i64 [3, 255, 0, 0]))]))]))], (.row 0 0), (some ⟨74, 4, (.big (.agg [(.int .i64), (.int .i64), (.int .i64), (.ints .i64)]) [(.agg (.gen [(iN 0), (iN 0), (iN 0), (.list (.ints .i64 [9, 0, 2, 1]))])), (.agg (.gen [(iN 0), (iN 1), (iN 1), (.list (.ints .i64 [2, 9, 1, 1]))])), (.agg (.gen [(iN 0), (iN 2), (iN 1), (.list (.ints .i64 [3, 255, 0, 0]))]))])⟩)⟩
theorem q75_ok : q75.ok := fct [q70, q72, q74] ⟨q70_ok, q72_ok, q74_ok, trivial⟩ (by kernel_rfl)
def q76 : Fact := ⟨87, [(iN 0), (iN 0), (iN 3)], (.bool true), none⟩
theorem q76_ok : q76.ok := fct [] trivial (by kernel_rfl)
def q77 : Fact := ⟨128, [(iN 9)], (iN 0), none⟩
theorem q77_ok : q77.ok := fct [] trivial (by kernel_rfl)
def q78 : Fact := ⟨127, [(.list (.ints .i64 [9, 0, 2, 1])), (.fn 128 [])], (iN 0), none⟩
theorem q78_ok : q78.ok := fct [q77, q11, q38, q5] ⟨q77_ok, q11_ok, q38_ok, q5_ok, trivial⟩ (by kernel_rfl)
def q79 : Fact := ⟨94, [(.list (.ints .i64 [9, 0, 2, 1]))], (iN 0), none⟩
theorem q79_ok : q79.ok := fct [q78] ⟨q78_ok, trivial⟩ (by kernel_rfl)
def q80 : Fact := ⟨84, [(.list (.ints .i64 [0, 0, 0, 0]))], (iN 0), none⟩
theorem q80_ok : q80.ok := fct [] trivial (by kernel_rfl)
def q81 : Fact := ⟨110, [(.agg (.gen [(iN 4), (iN 2)])), (.agg (.gen [(iN 0), (iN 0), (iN 0), (.list (.ints .i64 [9, 0, 2, 1]))]))], (iN 0), none⟩
theorem q81_ok : q81.ok := fct [q31, q35, q76, q4, q0, q79, q80] ⟨q31_ok, q35_ok, q76_ok, q4_ok, q0_ok, q79_ok, q80_ok, trivial⟩ (by kernel_rfl)
def q82 : Fact := ⟨87, [(iN 1), (iN 0), (iN 63)], (.bool true), none⟩
theorem q82_ok : q82.ok := fct [] trivial (by kernel_rfl)
def q83 : Fact := ⟨100, [(iN 1)], (.bool true), none⟩
theorem q83_ok : q83.ok := fct [q82] ⟨q82_ok, trivial⟩ (by kernel_rfl)
def q84 : Fact := ⟨87, [(iN 1), (iN 0), (iN 3)], (.bool true), none⟩
theorem q84_ok : q84.ok := fct [] trivial (by kernel_rfl)
def q85 : Fact := ⟨127, [(.list (.ints .i64 [2, 9, 1, 1])), (.fn 128 [])], (iN 0), none⟩
theorem q85_ok : q85.ok := fct [q38, q77, q5] ⟨q38_ok, q77_ok, q5_ok, trivial⟩ (by kernel_rfl)
def q86 : Fact := ⟨94, [(.list (.ints .i64 [2, 9, 1, 1]))], (iN 0), none⟩
theorem q86_ok : q86.ok := fct [q85] ⟨q85_ok, trivial⟩ (by kernel_rfl)
def q87 : Fact := ⟨110, [(.agg (.gen [(iN 4), (iN 2)])), (.agg (.gen [(iN 0), (iN 1), (iN 1), (.list (.ints .i64 [2, 9, 1, 1]))]))], (iN 0), none⟩
theorem q87_ok : q87.ok := fct [q31, q83, q84, q4, q0, q86, q80] ⟨q31_ok, q83_ok, q84_ok, q4_ok, q0_ok, q86_ok, q80_ok, trivial⟩ (by kernel_rfl)
def q88 : Fact := ⟨87, [(iN 2), (iN 0), (iN 63)], (.bool true), none⟩
theorem q88_ok : q88.ok := fct [] trivial (by kernel_rfl)
def q89 : Fact := ⟨100, [(iN 2)], (.bool true), none⟩
theorem q89_ok : q89.ok := fct [q88] ⟨q88_ok, trivial⟩ (by kernel_rfl)
def q90 : Fact := ⟨127, [(.list (.ints .i64 [3, 255, 0, 0])), (.fn 128 [])], (iN 0), none⟩
theorem q90_ok : q90.ok := fct [q42, q17, q11] ⟨q42_ok, q17_ok, q11_ok, trivial⟩ (by kernel_rfl)
def q91 : Fact := ⟨94, [(.list (.ints .i64 [3, 255, 0, 0]))], (iN 0), none⟩
theorem q91_ok : q91.ok := fct [q90] ⟨q90_ok, trivial⟩ (by kernel_rfl)
def q92 : Fact := ⟨110, [(.agg (.gen [(iN 4), (iN 2)])), (.agg (.gen [(iN 0), (iN 2), (iN 1), (.list (.ints .i64 [3, 255, 0, 0]))]))], (iN 0), none⟩
theorem q92_ok : q92.ok := fct [q31, q89, q84, q4, q0, q91, q80] ⟨q31_ok, q89_ok, q84_ok, q4_ok, q0_ok, q91_ok, q80_ok, trivial⟩ (by kernel_rfl)
def q93 : Fact := ⟨117, [(.list (.big (.agg [(.int .i64), (.int .i64), (.int .i64), (.ints .i64)]) [(.agg (.gen [(iN 0), (iN 0), (iN 0), (.list (.ints .i64 [9, 0, 2, 1]))])), (.agg (.gen [(iN 0), (iN 1), (iN 1), (.list (.ints .i64 [2, 9, 1, 1]))])), (.agg (.gen [(iN 0), (iN 2), (iN 1), (.list (.ints .i64 [3, 255, 0, 0]))]))])), (.val (.func (.func 110) ⟨[(.agg ⟨[(.int .i64 4), (.int .i64 2)]⟩)]⟩ ⟨[]⟩))], (iN 0), none⟩
theorem q93_ok : q93.ok := fct [q81, q87, q92] ⟨q81_ok, q87_ok, q92_ok, trivial⟩ (by kernel_rfl)
def q94 : Fact := ⟨78, [(.agg (.gen [(iN 4), (iN 2)])), (iN 0), (.list (.big (.agg [(.int .i64), (.int .i64), (.int .i64), (.ints .i64)]) [(.agg (.gen [(iN 0), (iN 0), (iN 0), (.list (.ints .i64 [9, 0, 2, 1]))])), (.agg (.gen [(iN 0), (iN 1), (iN 1), (.list (.ints .i64 [2, 9, 1, 1]))])), (.agg (.gen [(iN 0), (iN 2), (iN 1), (.list (.ints .i64 [3, 255, 0, 0]))]))]))], (.tup [(.agg (.gen [(iN 4), (iN 2)])), (iN 0)]), none⟩
theorem q94_ok : q94.ok := fct [q33, q1, q93, q20] ⟨q33_ok, q1_ok, q93_ok, q20_ok, trivial⟩ (by kernel_rfl)
def q95 : Fact := ⟨120, [(iN 65), (iN 64)], (iN 1), none⟩
theorem q95_ok : q95.ok := fct [] trivial (by kernel_rfl)
def q96 : Fact := ⟨119, [(.agg (.gen [(iN 0), (iN 1), (iN 1), (.list (.ints .i64 [2, 9, 1, 1])), (iN 65)])), (.agg (.gen [(iN 0), (iN 0), (iN 0), (.list (.ints .i64 [9, 0, 2, 1])), (iN 64)]))], (iN 1), none⟩
theorem q96_ok : q96.ok := fct [q95] ⟨q95_ok, trivial⟩ (by kernel_rfl)
def q97 : Fact := ⟨120, [(iN 66), (iN 65)], (iN 1), none⟩
theorem q97_ok : q97.ok := fct [] trivial (by kernel_rfl)
def q98 : Fact := ⟨119, [(.agg (.gen [(iN 0), (iN 2), (iN 1), (.list (.ints .i64 [3, 255, 0, 0])), (iN 66)])), (.agg (.gen [(iN 0), (iN 1), (iN 1), (.list (.ints .i64 [2, 9, 1, 1])), (iN 65)]))], (iN 1), none⟩
theorem q98_ok : q98.ok := fct [q97] ⟨q97_ok, trivial⟩ (by kernel_rfl)
def q99 : Fact := ⟨139, [(.list (.big (.agg [(.int .i64), (.int .i64), (.int .i64), (.ints .i64), (.int .i64)]) [(.agg (.gen [(iN 0), (iN 0), (iN 0), (.list (.ints .i64 [9, 0, 2, 1])), (iN 64)])), (.agg (.gen [(iN 0), (iN 1), (iN 1), (.list (.ints .i64 [2, 9, 1, 1])), (iN 65)])), (.agg (.gen [(iN 0), (iN 2), (iN 1), (.list (.ints .i64 [3, 255, 0, 0])), (iN 66)]))])), (iN 0), (iN 3), (.fn 119 [])], (.tup []), none⟩
theorem q99_ok : q99.ok := fct [q96, q98] ⟨q96_ok, q98_ok, trivial⟩ (by kernel_rfl)
def q100 : Fact := ⟨137, [(.list (.big (.agg [(.int .i64), (.int .i64), (.int .i64), (.ints .i64), (.int .i64)]) [(.agg (.gen [(iN 0), (iN 0), (iN 0), (.list (.ints .i64 [9, 0, 2, 1])), (iN 64)])), (.agg (.gen [(iN 0), (iN 1), (iN 1), (.list (.ints .i64 [2, 9, 1, 1])), (iN 65)])), (.agg (.gen [(iN 0), (iN 2), (iN 1), (.list (.ints .i64 [3, 255, 0, 0])), (iN 66)]))])), (iN 3), (.fn 119 [])], (.tup []), none⟩
theorem q100_ok : q100.ok := fct [q99] ⟨q99_ok, trivial⟩ (by kernel_rfl)
def q101 : Fact := ⟨118, [(.list (.big (.agg [(.int .i64), (.int .i64), (.int .i64), (.ints .i64), (.int .i64)]) [(.agg (.gen [(iN 0), (iN 0), (iN 0), (.list (.ints .i64 [9, 0, 2, 1])), (iN 64)])), (.agg (.gen [(iN 0), (iN 1), (iN 1), (.list (.ints .i64 [2, 9, 1, 1])), (iN 65)])), (.agg (.gen [(iN 0), (iN 2), (iN 1), (.list (.ints .i64 [3, 255, 0, 0])), (iN 66)]))])), (.fn 119 [])], (.tup []), none⟩
theorem q101_ok : q101.ok := fct [q100] ⟨q100_ok, trivial⟩ (by kernel_rfl)
def q102 : Fact := ⟨122, [(.agg (.gen [(iN 0), (iN 1), (iN 1), (.list (.ints .i64 [2, 9, 1, 1])), (iN 65)])), (.agg (.gen [(iN 0), (iN 0), (iN 0), (.list (.ints .i64 [9, 0, 2, 1])), (iN 64)]))], (.bool false), none⟩
theorem q102_ok : q102.ok := fct [] trivial (by kernel_rfl)
def q103 : Fact := ⟨122, [(.agg (.gen [(iN 0), (iN 2), (iN 1), (.list (.ints .i64 [3, 255, 0, 0])), (iN 66)])), (.agg (.gen [(iN 0), (iN 1), (iN 1), (.list (.ints .i64 [2, 9, 1, 1])), (iN 65)]))], (.bool false), none⟩
theorem q103_ok : q103.ok := fct [] trivial (by kernel_rfl)
def q104 : Fact := ⟨121, [(.list (.big (.agg [(.int .i64), (.int .i64), (.int .i64), (.ints .i64), (.int .i64)]) [(.agg (.gen [(iN 0), (iN 0), (iN 0), (.list (.ints .i64 [9, 0, 2, 1])), (iN 64)])), (.agg (.gen [(iN 0), (iN 1), (iN 1), (.list (.ints .i64 [2, 9, 1, 1])), (iN 65)])), (.agg (.gen [(iN 0), (iN 2), (iN 1), (.list (.ints .i64 [3, 255, 0, 0])), (iN 66)]))])), (.fn 122 [])], (.list (.big (.agg [(.int .i64), (.int .i64), (.int .i64), (.ints .i64), (.int .i64)]) [(.agg (.gen [(iN 0), (iN 0), (iN 0), (.list (.ints .i64 [9, 0, 2, 1])), (iN 64)])), (.agg (.gen [(iN 0), (iN 1), (iN 1), (.list (.ints .i64 [2, 9, 1, 1])), (iN 65)])), (.agg (.gen [(iN 0), (iN 2), (iN 1), (.list (.ints .i64 [3, 255, 0, 0])), (iN 66)]))])), none⟩
theorem q104_ok : q104.ok := fct [q102, q103] ⟨q102_ok, q103_ok, trivial⟩ (by kernel_rfl)
def q105 : Fact := ⟨79, [(iN 0), (.list (.big (.agg [(.int .i64), (.int .i64), (.int .i64), (.ints .i64)]) [(.agg (.gen [(iN 0), (iN 0), (iN 0), (.list (.ints .i64 [9, 0, 2, 1]))])), (.agg (.gen [(iN 0), (iN 1), (iN 1), (.list (.ints .i64 [2, 9, 1, 1]))])), (.agg (.gen [(iN 0), (iN 2), (iN 1), (.list (.ints .i64 [3, 255, 0, 0]))]))]))], (.row 0 0), (some ⟨140, 5, (.big (.agg [(.int .i64), (.int .i64), (.int .i64), (.ints .i64), (.int .i64)]) [(.agg (.gen [(iN 0), (iN 0), (iN 0), (.list (.ints .i64 [9, 0, 2, 1])), (iN 64)])), (.agg (.gen [(iN 0), (iN 1), (iN 1), (.list (.ints .i64 [2, 9, 1, 1])), (iN 65)])), (.agg (.gen [(iN 0), (iN 2), (iN 1), (.list (.ints .i64 [3, 255, 0, 0])), (iN 66)]))])⟩)⟩
theorem q105_ok : q105.ok := fct [q101, q104, q102, q103] ⟨q101_ok, q104_ok, q102_ok, q103_ok, trivial⟩ (by kernel_rfl)
def q106 : Fact := ⟨113, [(.list (.gen [.nils, (.list (.ints .i64 [9, 0, 2, 1]))]))], (.row 0 0), (some ⟨3, 1, (.ints .i64 [9, 0, 2, 1])⟩)⟩
theorem q106_ok : q106.ok := fct [] trivial (by kernel_rfl)
def q107 : Fact := ⟨113, [(.list (.big (.ints .i64) [(.list (.ints .i64 [9, 0, 2, 1])), (.list (.ints .i64 [2, 9, 1, 1]))]))], (.row 0 0), (some ⟨3, 1, (.ints .i64 [9, 0, 2, 1, 2, 9, 1, 1])⟩)⟩
theorem q107_ok : q107.ok := fct [] trivial (by kernel_rfl)
def q108 : Fact := ⟨123, [(.eptr (.agg (.gen [(.bool true), (.list (.ints .i64 [9, 0, 2, 1])), .nils])) 0), (.agg (.gen [(iN 0), (iN 1), (iN 1), (.list (.ints .i64 [2, 9, 1, 1]))]))], (iN 1), none⟩
theorem q108_ok : q108.ok := fct [q107] ⟨q107_ok, trivial⟩ (by kernel_rfl)
def q109 : Fact := ⟨113, [(.list (.gen [(.list (.ints .i64 [9, 0, 2, 1])), (.list (.ints .i64 [2, 9, 1, 1]))]))], (.row 0 0), (some ⟨3, 1, (.ints .i64 [9, 0, 2, 1, 2, 9, 1, 1])⟩)⟩
theorem q109_ok : q109.ok := fct [] trivial (by kernel_rfl)
def q110 : Fact := ⟨102, [(.list (.ints .i64 [1, 2]))], (.row 0 0), (some ⟨3, 1, (.ints .i64 [1, 2])⟩)⟩
theorem q110_ok : q110.ok := fct [] trivial (by kernel_rfl)
def q111 : Fact := ⟨113, [(.list (.big (.ints .i64) [(.list (.ints .i64 [9, 1, 1])), (.list (.ints .i64 [3, 255, 0, 0]))]))], (.row 0 0), (some ⟨3, 1, (.ints .i64 [9, 1, 1, 3, 255, 0, 0])⟩)⟩
theorem q111_ok : q111.ok := fct [] trivial (by kernel_rfl)
def q112 : Fact := ⟨123, [(.eptr (.agg (.gen [(.bool true), (.list (.ints .i64 [9, 1, 1])), (.list (.gen [(.agg (.gen [(iN 9), (iN 0), (.list (.ints .i64 [1, 2]))]))]))])) 0), (.agg (.gen [(iN 0), (iN 2), (iN 1), (.list (.ints .i64 [3, 255, 0, 0]))]))], (iN 1), none⟩
theorem q112_ok : q112.ok := fct [q111] ⟨q111_ok, trivial⟩ (by kernel_rfl)
def q113 : Fact := ⟨113, [(.list (.gen [(.list (.ints .i64 [9, 1, 1])), (.list (.ints .i64 [3, 255, 0, 0]))]))], (.row 0 0), (some ⟨3, 1, (.ints .i64 [9, 1, 1, 3, 255, 0, 0])⟩)⟩
theorem q113_ok : q113.ok := fct [] trivial (by kernel_rfl)
def q114 : Fact := ⟨102, [(.list (.ints .i64 [3]))], (.row 0 0), (some ⟨3, 1, (.ints .i64 [3])⟩)⟩
theorem q114_ok : q114.ok := fct [] trivial (by kernel_rfl)
def q115 : Fact := ⟨102, [(.list (.ints .i64 []))], (.list (.ints .i64 [])), (some ⟨0, 0, (.gen [])⟩)⟩
theorem q115_ok : q115.ok := clone_ok [] (by decide)
def q116 : Fact := ⟨16, [(.agg (.gen [(iN 4), (iN 2)])), (iN 0), (.list (.big (.agg [(.int .i64), (.int .i64), (.int .i64), (.ints .i64)]) [(.agg (.gen [(iN 0), (iN 0), (iN 0), (.list (.ints .i64 [9, 0, 2, 1]))])), (.agg (.gen [(iN 0), (iN 1), (iN 1), (.list (.ints .i64 [2, 9, 1, 1]))])), (.agg (.gen [(iN 0), (iN 2), (iN 1), (.list (.ints .i64 [3, 255, 0, 0]))]))]))], (.tup [(.list (.gen [(.agg (.gen [(iN 9), (iN 0), (.list (.ints .i64 [1, 2]))])), (.agg (.gen [(iN 9), (iN 1), (.list (.ints .i64 [3]))]))])), (iN 0)]), none⟩
theorem q116_ok : q116.ok := fct [q94, q105, q106, q108, q109, q110, q112, q113, q114, q115] ⟨q94_ok, q105_ok, q106_ok, q108_ok, q109_ok, q110_ok, q112_ok, q113_ok, q114_ok, q115_ok, trivial⟩ (by kernel_rfl)
def q122 : Fact := ⟨77, [], (.row 0 0), (some ⟨49, 3, (.big (.agg [(.int .i64), (.int .i64), (.int .i64)]) [(.agg (.gen [(iN 0), (iN 10), (iN 12)])), (.agg (.gen [(iN 10), (iN 30), (iN 32)])), (.agg (.gen [(iN 20), (iN 50), (iN 51)]))])⟩)⟩
theorem q122_ok : q122.ok := fct [] trivial (by kernel_rfl)
def q123 : Fact := ⟨87, [(iN 0), (iN 0), (iN 1000000)], (.bool true), none⟩
theorem q123_ok : q123.ok := fct [] trivial (by kernel_rfl)
def q124 : Fact := ⟨87, [(iN 10), (iN 0), (iN 1000000000000)], (.bool true), none⟩
theorem q124_ok : q124.ok := fct [] trivial (by kernel_rfl)
def q125 : Fact := ⟨105, [(iN 10)], (.bool true), none⟩
theorem q125_ok : q125.ok := fct [q124] ⟨q124_ok, trivial⟩ (by kernel_rfl)
def q126 : Fact := ⟨87, [(iN 12), (iN 0), (iN 1000000000000)], (.bool true), none⟩
theorem q126_ok : q126.ok := fct [] trivial (by kernel_rfl)
def q127 : Fact := ⟨105, [(iN 12)], (.bool true), none⟩
theorem q127_ok : q127.ok := fct [q126] ⟨q126_ok, trivial⟩ (by kernel_rfl)
def q128 : Fact := ⟨86, [(.bool true), (iN 9)], (iN 0), none⟩
theorem q128_ok : q128.ok := fct [] trivial (by kernel_rfl)
def q129 : Fact := ⟨87, [(iN 10), (iN 0), (iN 1000000)], (.bool true), none⟩
theorem q129_ok : q129.ok := fct [] trivial (by kernel_rfl)
def q130 : Fact := ⟨87, [(iN 30), (iN 0), (iN 1000000000000)], (.bool true), none⟩
theorem q130_ok : q130.ok := fct [] trivial (by kernel_rfl)
def q131 : Fact := ⟨105, [(iN 30)], (.bool true), none⟩
theorem q131_ok : q131.ok := fct [q130] ⟨q130_ok, trivial⟩ (by kernel_rfl)
def q132 : Fact := ⟨87, [(iN 32), (iN 0), (iN 1000000000000)], (.bool true), none⟩
theorem q132_ok : q132.ok := fct [] trivial (by kernel_rfl)
def q133 : Fact := ⟨105, [(iN 32)], (.bool true), none⟩
theorem q133_ok : q133.ok := fct [q132] ⟨q132_ok, trivial⟩ (by kernel_rfl)
def q134 : Fact := ⟨87, [(iN 20), (iN 0), (iN 1000000)], (.bool true), none⟩
theorem q134_ok : q134.ok := fct [] trivial (by kernel_rfl)
def q135 : Fact := ⟨87, [(iN 50), (iN 0), (iN 1000000000000)], (.bool true), none⟩
theorem q135_ok : q135.ok := fct [] trivial (by kernel_rfl)
def q136 : Fact := ⟨105, [(iN 50)], (.bool true), none⟩
theorem q136_ok : q136.ok := fct [q135] ⟨q135_ok, trivial⟩ (by kernel_rfl)
def q137 : Fact := ⟨87, [(iN 51), (iN 0), (iN 1000000000000)], (.bool true), none⟩
theorem q137_ok : q137.ok := fct [] trivial (by kernel_rfl)
def q138 : Fact := ⟨105, [(iN 51)], (.bool true), none⟩
theorem q138_ok : q138.ok := fct [q137] ⟨q137_ok, trivial⟩ (by kernel_rfl)
def q139 : Fact := ⟨41, [(.list (.big (.agg [(.int .i64), (.int .i64), (.int .i64)]) [(.agg (.gen [(iN 0), (iN 10), (iN 12)])), (.agg (.gen [(iN 10), (iN 30), (iN 32)])), (.agg (.gen [(iN 20), (iN 50), (iN 51)]))]))], (.tup [(iN 0), (iN 0)]), none⟩
theorem q139_ok : q139.ok := fct [q0, q1, q32, q123, q125, q127, q4, q128, q129, q131, q133, q134, q136, q138] ⟨q0_ok, q1_ok, q32_ok, q123_ok, q125_ok, q127_ok, q4_ok, q128_ok, q129_ok, q131_ok, q133_ok, q134_ok, q136_ok, q138_ok, trivial⟩ (by kernel_rfl)
def q140 : Fact := ⟨114, [(iN 18), (iN 10)], (.agg (.gen [(iN 9), (iN 5)])), none⟩
theorem q140_ok : q140.ok := fct [] trivial (by kernel_rfl)
def q141 : Fact := ⟨114, [(iN 22), (iN 10)], (.agg (.gen [(iN 11), (iN 5)])), none⟩
theorem q141_ok : q141.ok := fct [] trivial (by kernel_rfl)
def q142 : Fact := ⟨114, [(iN 38), (iN 20)], (.agg (.gen [(iN 19), (iN 10)])), none⟩
theorem q142_ok : q142.ok := fct [] trivial (by kernel_rfl)
def q143 : Fact := ⟨114, [(iN 41), (iN 20)], (.agg (.gen [(iN 41), (iN 20)])), none⟩
theorem q143_ok : q143.ok := fct [] trivial (by kernel_rfl)
def q144 : Fact := ⟨135, [(.agg (.gen [(iN 9), (iN 5)])), (.agg (.gen [(iN 19), (iN 10)]))], (.bool true), none⟩
theorem q144_ok : q144.ok := fct [] trivial (by kernel_rfl)
def q145 : Fact := ⟨135, [(.agg (.gen [(iN 41), (iN 20)])), (.agg (.gen [(iN 11), (iN 5)]))], (.bool true), none⟩
theorem q145_ok : q145.ok := fct [] trivial (by kernel_rfl)
def q146 : Fact := ⟨114, [(iN 21), (iN 10)], (.agg (.gen [(iN 21), (iN 10)])), none⟩
theorem q146_ok : q146.ok := fct [] trivial (by kernel_rfl)
def q147 : Fact := ⟨135, [(.agg (.gen [(iN 19), (iN 10)])), (.agg (.gen [(iN 9), (iN 5)]))], (.bool false), none⟩
theorem q147_ok : q147.ok := fct [] trivial (by kernel_rfl)
def q148 : Fact := ⟨135, [(.agg (.gen [(iN 21), (iN 10)])), (.agg (.gen [(iN 41), (iN 20)]))], (.bool false), none⟩
theorem q148_ok : q148.ok := fct [] trivial (by kernel_rfl)
def q149 : Fact := ⟨106, [(.list (.big (.agg [(.int .i64), (.int .i64), (.int .i64)]) [(.agg (.gen [(iN 0), (iN 10), (iN 12)])), (.agg (.gen [(iN 10), (iN 30), (iN 32)])), (.agg (.gen [(iN 20), (iN 50), (iN 51)]))]))], (.agg (.gen [(iN 19), (iN 10), (iN 41), (iN 20)])), none⟩
theorem q149_ok : q149.ok := fct [q140, q141, q142, q143, q144, q145, q146, q147, q148] ⟨q140_ok, q141_ok, q142_ok, q143_ok, q144_ok, q145_ok, q146_ok, q147_ok, q148_ok, trivial⟩ (by kernel_rfl)
def q150 : Fact := ⟨135, [(.agg (.gen [(iN 41), (iN 20)])), (.agg (.gen [(iN 19), (iN 10)]))], (.bool false), none⟩
theorem q150_ok : q150.ok := fct [] trivial (by kernel_rfl)
def q151 : Fact := ⟨107, [(.list (.big (.agg [(.int .i64), (.int .i64), (.int .i64)]) [(.agg (.gen [(iN 0), (iN 10), (iN 12)])), (.agg (.gen [(iN 10), (iN 30), (iN 32)])), (.agg (.gen [(iN 20), (iN 50), (iN 51)]))]))], (.bool true), none⟩
theorem q151_ok : q151.ok := fct [q149, q150] ⟨q149_ok, q150_ok, trivial⟩ (by kernel_rfl)
def q152 : Fact := ⟨86, [(.bool true), (iN 13)], (iN 0), none⟩
theorem q152_ok : q152.ok := fct [] trivial (by kernel_rfl)
def q153 : Fact := ⟨85, [(.list (.big (.agg [(.int .i64), (.int .i64), (.int .i64)]) [(.agg (.gen [(iN 0), (iN 10), (iN 12)])), (.agg (.gen [(iN 10), (iN 30), (iN 32)])), (.agg (.gen [(iN 20), (iN 50), (iN 51)]))]))], (iN 0), none⟩
theorem q153_ok : q153.ok := fct [q139, q0, q151, q152, q32] ⟨q139_ok, q0_ok, q151_ok, q152_ok, q32_ok, trivial⟩ (by kernel_rfl)
def q154 : Fact := ⟨87, [(iN 19), (iN (-1000000000)), (iN 1000000000)], (.bool true), none⟩
theorem q154_ok : q154.ok := fct [] trivial (by kernel_rfl)
def q155 : Fact := ⟨87, [(iN 41), (iN (-1000000000)), (iN 1000000000)], (.bool true), none⟩
theorem q155_ok : q155.ok := fct [] trivial (by kernel_rfl)
def q156 : Fact := ⟨42, [(.list (.big (.agg [(.int .i64), (.int .i64), (.int .i64)]) [(.agg (.gen [(iN 0), (iN 10), (iN 12)])), (.agg (.gen [(iN 10), (iN 30), (iN 32)])), (.agg (.gen [(iN 20), (iN 50), (iN 51)]))]))], (.tup [(.agg (.gen [(iN 19), (iN 10), (iN 41), (iN 20)])), (iN 0)]), none⟩
theorem q156_ok : q156.ok := fct [q153, q149, q154, q155] ⟨q153_ok, q149_ok, q154_ok, q155_ok, trivial⟩ (by kernel_rfl)
def q157 : Fact := ⟨87, [(iN 30), (iN 0), (iN 1000000)], (.bool true), none⟩
theorem q157_ok : q157.ok := fct [] trivial (by kernel_rfl)
def q158 : Fact := ⟨91, [(.agg (.gen [(iN 0), (iN 10), (iN 10), (iN 30)]))], (iN 10), none⟩
theorem q158_ok : q158.ok := fct [] trivial (by kernel_rfl)
def q159 : Fact := ⟨89, [(.agg (.gen [(iN 0), (iN 10), (iN 10), (iN 30)])), (iN 0)], (iN 100), none⟩
theorem q159_ok : q159.ok := fct [q158] ⟨q158_ok, trivial⟩ (by kernel_rfl)
def q160 : Fact := ⟨87, [(iN 100), (iN 100), (iN 120)], (.bool true), none⟩
theorem q160_ok : q160.ok := fct [] trivial (by kernel_rfl)
def q161 : Fact := ⟨89, [(.agg (.gen [(iN 0), (iN 10), (iN 10), (iN 30)])), (iN 10)], (iN 300), none⟩
theorem q161_ok : q161.ok := fct [q158] ⟨q158_ok, trivial⟩ (by kernel_rfl)
def q162 : Fact := ⟨87, [(iN 300), (iN 300), (iN 320)], (.bool true), none⟩
theorem q162_ok : q162.ok := fct [] trivial (by kernel_rfl)
def q163 : Fact := ⟨89, [(.agg (.gen [(iN 0), (iN 10), (iN 10), (iN 30)])), (iN 20)], (iN 500), none⟩
theorem q163_ok : q163.ok := fct [q158] ⟨q158_ok, trivial⟩ (by kernel_rfl)
def q164 : Fact := ⟨87, [(iN 500), (iN 500), (iN 510)], (.bool true), none⟩
theorem q164_ok : q164.ok := fct [] trivial (by kernel_rfl)
def q165 : Fact := ⟨126, [(.agg (.gen [(iN 0), (iN 10), (iN 10), (iN 30)])), (.list (.big (.agg [(.int .i64), (.int .i64), (.int .i64)]) [(.agg (.gen [(iN 0), (iN 10), (iN 12)])), (.agg (.gen [(iN 10), (iN 30), (iN 32)])), (.agg (.gen [(iN 20), (iN 50), (iN 51)]))]))], (.bool true), none⟩
theorem q165_ok : q165.ok := fct [q159, q158, q160, q161, q162, q163, q164] ⟨q159_ok, q158_ok, q160_ok, q161_ok, q162_ok, q163_ok, q164_ok, trivial⟩ (by kernel_rfl)
def q166 : Fact := ⟨89, [(.agg (.gen [(iN 0), (iN 10), (iN 10), (iN 30)])), (iN 30)], (iN 700), none⟩
theorem q166_ok : q166.ok := fct [q158] ⟨q158_ok, trivial⟩ (by kernel_rfl)
def q167 : Fact := ⟨90, [(iN 700), (iN 10)], (iN 70), none⟩
theorem q167_ok : q167.ok := fct [] trivial (by kernel_rfl)
def q168 : Fact := ⟨90, [(iN (-700)), (iN 10)], (iN (-70)), none⟩
theorem q168_ok : q168.ok := fct [] trivial (by kernel_rfl)
def q169 : Fact := ⟨91, [(.agg (.gen [(iN 0), (iN 10), (iN 10), (iN 32)]))], (iN 10), none⟩
theorem q169_ok : q169.ok := fct [] trivial (by kernel_rfl)
def q170 : Fact := ⟨89, [(.agg (.gen [(iN 0), (iN 10), (iN 10), (iN 32)])), (iN 0)], (iN 100), none⟩
theorem q170_ok : q170.ok := fct [q169] ⟨q169_ok, trivial⟩ (by kernel_rfl)
def q171 : Fact := ⟨89, [(.agg (.gen [(iN 0), (iN 10), (iN 10), (iN 32)])), (iN 10)], (iN 320), none⟩
theorem q171_ok : q171.ok := fct [q169] ⟨q169_ok, trivial⟩ (by kernel_rfl)
def q172 : Fact := ⟨87, [(iN 320), (iN 300), (iN 320)], (.bool true), none⟩
theorem q172_ok : q172.ok := fct [] trivial (by kernel_rfl)
def q173 : Fact := ⟨89, [(.agg (.gen [(iN 0), (iN 10), (iN 10), (iN 32)])), (iN 20)], (iN 540), none⟩
theorem q173_ok : q173.ok := fct [q169] ⟨q169_ok, trivial⟩ (by kernel_rfl)
def q174 : Fact := ⟨87, [(iN 540), (iN 500), (iN 510)], (.bool false), none⟩
theorem q174_ok : q174.ok := fct [] trivial (by kernel_rfl)
def q175 : Fact := ⟨126, [(.agg (.gen [(iN 0), (iN 10), (iN 10), (iN 32)])), (.list (.big (.agg [(.int .i64), (.int .i64), (.int .i64)]) [(.agg (.gen [(iN 0), (iN 10), (iN 12)])), (.agg (.gen [(iN 10), (iN 30), (iN 32)])), (.agg (.gen [(iN 20), (iN 50), (iN 51)]))]))], (.bool false), none⟩
theorem q175_ok : q175.ok := fct [q170, q169, q160, q171, q172, q173, q174] ⟨q170_ok, q169_ok, q160_ok, q171_ok, q172_ok, q173_ok, q174_ok, trivial⟩ (by kernel_rfl)
def q176 : Fact := ⟨91, [(.agg (.gen [(iN 0), (iN 12), (iN 10), (iN 30)]))], (iN 10), none⟩
theorem q176_ok : q176.ok := fct [] trivial (by kernel_rfl)
def q177 : Fact := ⟨89, [(.agg (.gen [(iN 0), (iN 12), (iN 10), (iN 30)])), (iN 0)], (iN 120), none⟩
theorem q177_ok : q177.ok := fct [q176] ⟨q176_ok, trivial⟩ (by kernel_rfl)
def q178 : Fact := ⟨87, [(iN 120), (iN 100), (iN 120)], (.bool true), none⟩
theorem q178_ok : q178.ok := fct [] trivial (by kernel_rfl)
def q179 : Fact := ⟨89, [(.agg (.gen [(iN 0), (iN 12), (iN 10), (iN 30)])), (iN 10)], (iN 300), none⟩
theorem q179_ok : q179.ok := fct [q176] ⟨q176_ok, trivial⟩ (by kernel_rfl)
def q180 : Fact := ⟨89, [(.agg (.gen [(iN 0), (iN 12), (iN 10), (iN 30)])), (iN 20)], (iN 480), none⟩
theorem q180_ok : q180.ok := fct [q176] ⟨q176_ok, trivial⟩ (by kernel_rfl)
def q181 : Fact := ⟨87, [(iN 480), (iN 500), (iN 510)], (.bool false), none⟩
theorem q181_ok : q181.ok := fct [] trivial (by kernel_rfl)
def q182 : Fact := ⟨126, [(.agg (.gen [(iN 0), (iN 12), (iN 10), (iN 30)])), (.list (.big (.agg [(.int .i64), (.int .i64), (.int .i64)]) [(.agg (.gen [(iN 0), (iN 10), (iN 12)])), (.agg (.gen [(iN 10), (iN 30), (iN 32)])), (.agg (.gen [(iN 20), (iN 50), (iN 51)]))]))], (.bool false), none⟩
theorem q182_ok : q182.ok := fct [q177, q176, q178, q179, q162, q180, q181] ⟨q177_ok, q176_ok, q178_ok, q179_ok, q162_ok, q180_ok, q181_ok, trivial⟩ (by kernel_rfl)
def q183 : Fact := ⟨91, [(.agg (.gen [(iN 0), (iN 12), (iN 10), (iN 32)]))], (iN 10), none⟩
theorem q183_ok : q183.ok := fct [] trivial (by kernel_rfl)
def q184 : Fact := ⟨89, [(.agg (.gen [(iN 0), (iN 12), (iN 10), (iN 32)])), (iN 0)], (iN 120), none⟩
theorem q184_ok : q184.ok := fct [q183] ⟨q183_ok, trivial⟩ (by kernel_rfl)
def q185 : Fact := ⟨89, [(.agg (.gen [(iN 0), (iN 12), (iN 10), (iN 32)])), (iN 10)], (iN 320), none⟩
theorem q185_ok : q185.ok := fct [q183] ⟨q183_ok, trivial⟩ (by kernel_rfl)
def q186 : Fact := ⟨89, [(.agg (.gen [(iN 0), (iN 12), (iN 10), (iN 32)])), (iN 20)], (iN 520), none⟩
theorem q186_ok : q186.ok := fct [q183] ⟨q183_ok, trivial⟩ (by kernel_rfl)
def q187 : Fact := ⟨87, [(iN 520), (iN 500), (iN 510)], (.bool false), none⟩
theorem q187_ok : q187.ok := fct [] trivial (by kernel_rfl)
def q188 : Fact := ⟨126, [(.agg (.gen [(iN 0), (iN 12), (iN 10), (iN 32)])), (.list (.big (.agg [(.int .i64), (.int .i64), (.int .i64)]) [(.agg (.gen [(iN 0), (iN 10), (iN 12)])), (.agg (.gen [(iN 10), (iN 30), (iN 32)])), (.agg (.gen [(iN 20), (iN 50), (iN 51)]))]))], (.bool false), none⟩
theorem q188_ok : q188.ok := fct [q184, q183, q178, q185, q172, q186, q187] ⟨q184_ok, q183_ok, q178_ok, q185_ok, q172_ok, q186_ok, q187_ok, trivial⟩ (by kernel_rfl)
def q189 : Fact := ⟨91, [(.agg (.gen [(iN 0), (iN 10), (iN 20), (iN 50)]))], (iN 20), none⟩
theorem q189_ok : q189.ok := fct [] trivial (by kernel_rfl)
def q190 : Fact := ⟨89, [(.agg (.gen [(iN 0), (iN 10), (iN 20), (iN 50)])), (iN 0)], (iN 200), none⟩
theorem q190_ok : q190.ok := fct [q189] ⟨q189_ok, trivial⟩ (by kernel_rfl)
def q191 : Fact := ⟨87, [(iN 200), (iN 200), (iN 240)], (.bool true), none⟩
theorem q191_ok : q191.ok := fct [] trivial (by kernel_rfl)
def q192 : Fact := ⟨89, [(.agg (.gen [(iN 0), (iN 10), (iN 20), (iN 50)])), (iN 10)], (iN 600), none⟩
theorem q192_ok : q192.ok := fct [q189] ⟨q189_ok, trivial⟩ (by kernel_rfl)
def q193 : Fact := ⟨87, [(iN 600), (iN 600), (iN 640)], (.bool true), none⟩
theorem q193_ok : q193.ok := fct [] trivial (by kernel_rfl)
def q194 : Fact := ⟨89, [(.agg (.gen [(iN 0), (iN 10), (iN 20), (iN 50)])), (iN 20)], (iN 1000), none⟩
theorem q194_ok : q194.ok := fct [q189] ⟨q189_ok, trivial⟩ (by kernel_rfl)
def q195 : Fact := ⟨87, [(iN 1000), (iN 1000), (iN 1020)], (.bool true), none⟩
theorem q195_ok : q195.ok := fct [] trivial (by kernel_rfl)
def q196 : Fact := ⟨126, [(.agg (.gen [(iN 0), (iN 10), (iN 20), (iN 50)])), (.list (.big (.agg [(.int .i64), (.int .i64), (.int .i64)]) [(.agg (.gen [(iN 0), (iN 10), (iN 12)])), (.agg (.gen [(iN 10), (iN 30), (iN 32)])), (.agg (.gen [(iN 20), (iN 50), (iN 51)]))]))], (.bool true), none⟩
theorem q196_ok : q196.ok := fct [q190, q189, q191, q192, q193, q194, q195] ⟨q190_ok, q189_ok, q191_ok, q192_ok, q193_ok, q194_ok, q195_ok, trivial⟩ (by kernel_rfl)
def q197 : Fact := ⟨89, [(.agg (.gen [(iN 0), (iN 10), (iN 20), (iN 50)])), (iN 30)], (iN 1400), none⟩
theorem q197_ok : q197.ok := fct [q189] ⟨q189_ok, trivial⟩ (by kernel_rfl)
def q198 : Fact := ⟨90, [(iN 1400), (iN 20)], (iN 70), none⟩
theorem q198_ok : q198.ok := fct [] trivial (by kernel_rfl)
def q199 : Fact := ⟨90, [(iN (-1400)), (iN 20)], (iN (-70)), none⟩
theorem q199_ok : q199.ok := fct [] trivial (by kernel_rfl)
def q200 : Fact := ⟨91, [(.agg (.gen [(iN 0), (iN 10), (iN 20), (iN 51)]))], (iN 20), none⟩
theorem q200_ok : q200.ok := fct [] trivial (by kernel_rfl)
def q201 : Fact := ⟨89, [(.agg (.gen [(iN 0), (iN 10), (iN 20), (iN 51)])), (iN 0)], (iN 200), none⟩
theorem q201_ok : q201.ok := fct [q200] ⟨q200_ok, trivial⟩ (by kernel_rfl)
def q202 : Fact := ⟨89, [(.agg (.gen [(iN 0), (iN 10), (iN 20), (iN 51)])), (iN 10)], (iN 610), none⟩
theorem q202_ok : q202.ok := fct [q200] ⟨q200_ok, trivial⟩ (by kernel_rfl)
def q203 : Fact := ⟨87, [(iN 610), (iN 600), (iN 640)], (.bool true), none⟩
theorem q203_ok : q203.ok := fct [] trivial (by kernel_rfl)
def q204 : Fact := ⟨89, [(.agg (.gen [(iN 0), (iN 10), (iN 20), (iN 51)])), (iN 20)], (iN 1020), none⟩
theorem q204_ok : q204.ok := fct [q200] ⟨q200_ok, trivial⟩ (by kernel_rfl)
def q205 : Fact := ⟨87, [(iN 1020), (iN 1000), (iN 1020)], (.bool true), none⟩
theorem q205_ok : q205.ok := fct [] trivial (by kernel_rfl)
def q206 : Fact := ⟨126, [(.agg (.gen [(iN 0), (iN 10), (iN 20), (iN 51)])), (.list (.big (.agg [(.int .i64), (.int .i64), (.int .i64)]) [(.agg (.gen [(iN 0), (iN 10), (iN 12)])), (.agg (.gen [(iN 10), (iN 30), (iN 32)])), (.agg (.gen [(iN 20), (iN 50), (iN 51)]))]))], (.bool true), none⟩
theorem q206_ok : q206.ok := fct [q201, q200, q191, q202, q203, q204, q205] ⟨q201_ok, q200_ok, q191_ok, q202_ok, q203_ok, q204_ok, q205_ok, trivial⟩ (by kernel_rfl)
def q207 : Fact := ⟨89, [(.agg (.gen [(iN 0), (iN 10), (iN 20), (iN 51)])), (iN 30)], (iN 1430), none⟩
theorem q207_ok : q207.ok := fct [q200] ⟨q200_ok, trivial⟩ (by kernel_rfl)
def q208 : Fact := ⟨90, [(iN 1430), (iN 20)], (iN 71), none⟩
theorem q208_ok : q208.ok := fct [] trivial (by kernel_rfl)
def q209 : Fact := ⟨90, [(iN (-1430)), (iN 20)], (iN (-72)), none⟩
theorem q209_ok : q209.ok := fct [] trivial (by kernel_rfl)
def q210 : Fact := ⟨91, [(.agg (.gen [(iN 0), (iN 12), (iN 20), (iN 50)]))], (iN 20), none⟩
theorem q210_ok : q210.ok := fct [] trivial (by kernel_rfl)
def q211 : Fact := ⟨89, [(.agg (.gen [(iN 0), (iN 12), (iN 20), (iN 50)])), (iN 0)], (iN 240), none⟩
theorem q211_ok : q211.ok := fct [q210] ⟨q210_ok, trivial⟩ (by kernel_rfl)
def q212 : Fact := ⟨87, [(iN 240), (iN 200), (iN 240)], (.bool true), none⟩
theorem q212_ok : q212.ok := fct [] trivial (by kernel_rfl)
def q213 : Fact := ⟨89, [(.agg (.gen [(iN 0), (iN 12), (iN 20), (iN 50)])), (iN 10)], (iN 620), none⟩
theorem q213_ok : q213.ok := fct [q210] ⟨q210_ok, trivial⟩ (by kernel_rfl)
def q214 : Fact := ⟨87, [(iN 620), (iN 600), (iN 640)], (.bool true), none⟩
theorem q214_ok : q214.ok := fct [] trivial (by kernel_rfl)
def q215 : Fact := ⟨89, [(.agg (.gen [(iN 0), (iN 12), (iN 20), (iN 50)])), (iN 20)], (iN 1000), none⟩
theorem q215_ok : q215.ok := fct [q210] ⟨q210_ok, trivial⟩ (by kernel_rfl)
def q216 : Fact := ⟨126, [(.agg (.gen [(iN 0), (iN 12), (iN 20), (iN 50)])), (.list (.big (.agg [(.int .i64), (.int .i64), (.int .i64)]) [(.agg (.gen [(iN 0), (iN 10), (iN 12)])), (.agg (.gen [(iN 10), (iN 30), (iN 32)])), (.agg (.gen [(iN 20), (iN 50), (iN 51)]))]))], (.bool true), none⟩
theorem q216_ok : q216.ok := fct [q211, q210, q212, q213, q214, q215, q195] ⟨q211_ok, q210_ok, q212_ok, q213_ok, q214_ok, q215_ok, q195_ok, trivial⟩ (by kernel_rfl)
def q217 : Fact := ⟨89, [(.agg (.gen [(iN 0), (iN 12), (iN 20), (iN 50)])), (iN 30)], (iN 1380), none⟩
theorem q217_ok : q217.ok := fct [q210] ⟨q210_ok, trivial⟩ (by kernel_rfl)
def q218 : Fact := ⟨90, [(iN 1380), (iN 20)], (iN 69), none⟩
theorem q218_ok : q218.ok := fct [] trivial (by kernel_rfl)
def q219 : Fact := ⟨90, [(iN (-1380)), (iN 20)], (iN (-69)), none⟩
theorem q219_ok : q219.ok := fct [] trivial (by kernel_rfl)
def q220 : Fact := ⟨91, [(.agg (.gen [(iN 0), (iN 12), (iN 20), (iN 51)]))], (iN 20), none⟩
theorem q220_ok : q220.ok := fct [] trivial (by kernel_rfl)
def q221 : Fact := ⟨89, [(.agg (.gen [(iN 0), (iN 12), (iN 20), (iN 51)])), (iN 0)], (iN 240), none⟩
theorem q221_ok : q221.ok := fct [q220] ⟨q220_ok, trivial⟩ (by kernel_rfl)
def q222 : Fact := ⟨89, [(.agg (.gen [(iN 0), (iN 12), (iN 20), (iN 51)])), (iN 10)], (iN 630), none⟩
theorem q222_ok : q222.ok := fct [q220] ⟨q220_ok, trivial⟩ (by kernel_rfl)
def q223 : Fact := ⟨87, [(iN 630), (iN 600), (iN 640)], (.bool true), none⟩
theorem q223_ok : q223.ok := fct [] trivial (by kernel_rfl)
def q224 : Fact := ⟨89, [(.agg (.gen [(iN 0), (iN 12), (iN 20), (iN 51)])), (iN 20)], (iN 1020), none⟩
theorem q224_ok : q224.ok := fct [q220] ⟨q220_ok, trivial⟩ (by kernel_rfl)
def q225 : Fact := ⟨126, [(.agg (.gen [(iN 0), (iN 12), (iN 20), (iN 51)])), (.list (.big (.agg [(.int .i64), (.int .i64), (.int .i64)]) [(.agg (.gen [(iN 0), (iN 10), (iN 12)])), (.agg (.gen [(iN 10), (iN 30), (iN 32)])), (.agg (.gen [(iN 20), (iN 50), (iN 51)]))]))], (.bool true), none⟩
theorem q225_ok : q225.ok := fct [q221, q220, q212, q222, q223, q224, q205] ⟨q221_ok, q220_ok, q212_ok, q222_ok, q223_ok, q224_ok, q205_ok, trivial⟩ (by kernel_rfl)
def q226 : Fact := ⟨89, [(.agg (.gen [(iN 0), (iN 12), (iN 20), (iN 51)])), (iN 30)], (iN 1410), none⟩
theorem q226_ok : q226.ok := fct [q220] ⟨q220_ok, trivial⟩ (by kernel_rfl)
def q227 : Fact := ⟨90, [(iN 1410), (iN 20)], (iN 70), none⟩
theorem q227_ok : q227.ok := fct [] trivial (by kernel_rfl)
def q228 : Fact := ⟨90, [(iN (-1410)), (iN 20)], (iN (-71)), none⟩
theorem q228_ok : q228.ok := fct [] trivial (by kernel_rfl)
def q229 : Fact := ⟨91, [(.agg (.gen [(iN 10), (iN 30), (iN 20), (iN 50)]))], (iN 10), none⟩
theorem q229_ok : q229.ok := fct [] trivial (by kernel_rfl)
def q230 : Fact := ⟨89, [(.agg (.gen [(iN 10), (iN 30), (iN 20), (iN 50)])), (iN 0)], (iN 100), none⟩
theorem q230_ok : q230.ok := fct [q229] ⟨q229_ok, trivial⟩ (by kernel_rfl)
def q231 : Fact := ⟨89, [(.agg (.gen [(iN 10), (iN 30), (iN 20), (iN 50)])), (iN 10)], (iN 300), none⟩
theorem q231_ok : q231.ok := fct [q229] ⟨q229_ok, trivial⟩ (by kernel_rfl)
def q232 : Fact := ⟨89, [(.agg (.gen [(iN 10), (iN 30), (iN 20), (iN 50)])), (iN 20)], (iN 500), none⟩
theorem q232_ok : q232.ok := fct [q229] ⟨q229_ok, trivial⟩ (by kernel_rfl)
def q233 : Fact := ⟨126, [(.agg (.gen [(iN 10), (iN 30), (iN 20), (iN 50)])), (.list (.big (.agg [(.int .i64), (.int .i64), (.int .i64)]) [(.agg (.gen [(iN 0), (iN 10), (iN 12)])), (.agg (.gen [(iN 10), (iN 30), (iN 32)])), (.agg (.gen [(iN 20), (iN 50), (iN 51)]))]))], (.bool true), none⟩
theorem q233_ok : q233.ok := fct [q230, q229, q160, q231, q162, q232, q164] ⟨q230_ok, q229_ok, q160_ok, q231_ok, q162_ok, q232_ok, q164_ok, trivial⟩ (by kernel_rfl)
def q234 : Fact := ⟨89, [(.agg (.gen [(iN 10), (iN 30), (iN 20), (iN 50)])), (iN 30)], (iN 700), none⟩
theorem q234_ok : q234.ok := fct [q229] ⟨q229_ok, trivial⟩ (by kernel_rfl)
def q235 : Fact := ⟨91, [(.agg (.gen [(iN 10), (iN 30), (iN 20), (iN 51)]))], (iN 10), none⟩
theorem q235_ok : q235.ok := fct [] trivial (by kernel_rfl)
def q236 : Fact := ⟨89, [(.agg (.gen [(iN 10), (iN 30), (iN 20), (iN 51)])), (iN 0)], (iN 90), none⟩
theorem q236_ok : q236.ok := fct [q235] ⟨q235_ok, trivial⟩ (by kernel_rfl)
def q237 : Fact := ⟨87, [(iN 90), (iN 100), (iN 120)], (.bool false), none⟩
theorem q237_ok : q237.ok := fct [] trivial (by kernel_rfl)
def q238 : Fact := ⟨126, [(.agg (.gen [(iN 10), (iN 30), (iN 20), (iN 51)])), (.list (.big (.agg [(.int .i64), (.int .i64), (.int .i64)]) [(.agg (.gen [(iN 0), (iN 10), (iN 12)])), (.agg (.gen [(iN 10), (iN 30), (iN 32)])), (.agg (.gen [(iN 20), (iN 50), (iN 51)]))]))], (.bool false), none⟩
theorem q238_ok : q238.ok := fct [q236, q235, q237] ⟨q236_ok, q235_ok, q237_ok, trivial⟩ (by kernel_rfl)
def q239 : Fact := ⟨91, [(.agg (.gen [(iN 10), (iN 32), (iN 20), (iN 50)]))], (iN 10), none⟩
theorem q239_ok : q239.ok := fct [] trivial (by kernel_rfl)
def q240 : Fact := ⟨89, [(.agg (.gen [(iN 10), (iN 32), (iN 20), (iN 50)])), (iN 0)], (iN 140), none⟩
theorem q240_ok : q240.ok := fct [q239] ⟨q239_ok, trivial⟩ (by kernel_rfl)
def q241 : Fact := ⟨87, [(iN 140), (iN 100), (iN 120)], (.bool false), none⟩
theorem q241_ok : q241.ok := fct [] trivial (by kernel_rfl)
def q242 : Fact := ⟨126, [(.agg (.gen [(iN 10), (iN 32), (iN 20), (iN 50)])), (.list (.big (.agg [(.int .i64), (.int .i64), (.int .i64)]) [(.agg (.gen [(iN 0), (iN 10), (iN 12)])), (.agg (.gen [(iN 10), (iN 30), (iN 32)])), (.agg (.gen [(iN 20), (iN 50), (iN 51)]))]))], (.bool false), none⟩
theorem q242_ok : q242.ok := fct [q240, q239, q241] ⟨q240_ok, q239_ok, q241_ok, trivial⟩ (by kernel_rfl)
def q243 : Fact := ⟨91, [(.agg (.gen [(iN 10), (iN 32), (iN 20), (iN 51)]))], (iN 10), none⟩
theorem q243_ok : q243.ok := fct [] trivial (by kernel_rfl)
def q244 : Fact := ⟨89, [(.agg (.gen [(iN 10), (iN 32), (iN 20), (iN 51)])), (iN 0)], (iN 130), none⟩
theorem q244_ok : q244.ok := fct [q243] ⟨q243_ok, trivial⟩ (by kernel_rfl)
def q245 : Fact := ⟨87, [(iN 130), (iN 100), (iN 120)], (.bool false), none⟩
theorem q245_ok : q245.ok := fct [] trivial (by kernel_rfl)
def q246 : Fact := ⟨126, [(.agg (.gen [(iN 10), (iN 32), (iN 20), (iN 51)])), (.list (.big (.agg [(.int .i64), (.int .i64), (.int .i64)]) [(.agg (.gen [(iN 0), (iN 10), (iN 12)])), (.agg (.gen [(iN 10), (iN 30), (iN 32)])), (.agg (.gen [(iN 20), (iN 50), (iN 51)]))]))], (.bool false), none⟩
theorem q246_ok : q246.ok := fct [q244, q243, q245] ⟨q244_ok, q243_ok, q245_ok, trivial⟩ (by kernel_rfl)
def q247 : Fact := ⟨23, [(.list (.big (.agg [(.int .i64), (.int .i64), (.int .i64)]) [(.agg (.gen [(iN 0), (iN 10), (iN 12)])), (.agg (.gen [(iN 10), (iN 30), (iN 32)])), (.agg (.gen [(iN 20), (iN 50), (iN 51)]))])), (iN 30)], (.tup [(.agg (.gen [(iN 69), (iN 72)])), (iN 0)]), none⟩
theorem q247_ok : q247.ok := fct [q153, q157, q4, q32, q165, q166, q158, q167, q168, q175, q182, q188, q196, q197, q189, q198, q199, q206, q207, q200, q208, q209, q216, q217, q210, q218, q219, q225, q226, q220, q227, q228, q233, q234, q229, q238, q242, q246] ⟨q153_ok, q157_ok, q4_ok, q32_ok, q165_ok, q166_ok, q158_ok, q167_ok, q168_ok, q175_ok, q182_ok, q188_ok, q196_ok, q197_ok, q189_ok, q198_ok, q199_ok, q206_ok, q207_ok, q200_ok, q208_ok, q209_ok, q216_ok, q217_ok, q210_ok, q218_ok, q219_ok, q225_ok, q226_ok, q220_ok, q227_ok, q228_ok, q233_ok, q234_ok, q229_ok, q238_ok, q242_ok, q246_ok, trivial⟩ (by kernel_rfl)
def q248 : Fact := ⟨67, [(.list (.ints .i64 [3, 255, 0, 0])), (.list (.ints .i64 [3, 255, 0, 0]))], (.bool true), none⟩
theorem q248_ok : q248.ok := fct [] trivial (by kernel_rfl)
def q249 : Fact := ⟨67, [(.list (.ints .i64 [1, 2])), (.list (.ints .i64 [1, 2]))], (.bool true), none⟩
theorem q249_ok : q249.ok := fct [] trivial (by kernel_rfl)
def q250 : Fact := ⟨81, [(.agg (.gen [(iN 9), (iN 0), (.list (.ints .i64 [1, 2]))])), (.agg (.gen [(iN 9), (iN 0), (.list (.ints .i64 [1, 2]))]))], (.bool true), none⟩
theorem q250_ok : q250.ok := fct [q249] ⟨q249_ok, trivial⟩ (by kernel_rfl)
def q251 : Fact := ⟨67, [(.list (.ints .i64 [3])), (.list (.ints .i64 [3]))], (.bool true), none⟩
theorem q251_ok : q251.ok := fct [] trivial (by kernel_rfl)
def q252 : Fact := ⟨81, [(.agg (.gen [(iN 9), (iN 1), (.list (.ints .i64 [3]))])), (.agg (.gen [(iN 9), (iN 1), (.list (.ints .i64 [3]))]))], (.bool true), none⟩
theorem q252_ok : q252.ok := fct [q251] ⟨q251_ok, trivial⟩ (by kernel_rfl)
def q253 : Fact := ⟨21, [(.list (.gen [(.agg (.gen [(iN 9), (iN 0), (.list (.ints .i64 [1, 2]))])), (.agg (.gen [(iN 9), (iN 1), (.list (.ints .i64 [3]))]))])), (.list (.gen [(.agg (.gen [(iN 9), (iN 0), (.list (.ints .i64 [1, 2]))])), (.agg (.gen [(iN 9), (iN 1), (.list (.ints .i64 [3]))]))]))], (.bool true), none⟩
theorem q253_ok : q253.ok := fct [q250, q252] ⟨q250_ok, q252_ok, trivial⟩ (by kernel_rfl)
def q254 : Fact := ⟨14, [], (.bool true), none⟩
theorem q254_ok : q254.ok := fct [q22, q23, q24, q68, q75, q116, q94, q105, q101, q104, q102, q103, q106, q108, q109, q110, q112, q113, q114, q115, q122, q156, q247, q248, q253] ⟨q22_ok, q23_ok, q24_ok, q68_ok, q75_ok, q116_ok, q94_ok, q105_ok, q101_ok, q104_ok, q102_ok, q103_ok, q106_ok, q108_ok, q109_ok, q110_ok, q112_ok, q113_ok, q114_ok, q115_ok, q122_ok, q156_ok, q247_ok, q248_ok, q253_ok, trivial⟩ (by kernel_rfl)
end Go.Proofs.Ytjhdnpmojhkbjaa
/- Paths of functions, printed by the explorer (Gx). No condition. -/
namespace Go.Proofs.Ytjhdnpmojhkbjaa
set_option maxRecDepth 100000
set_option linter.unusedVariables false
def f18e (a : Int) (b : Int) : List AFrame := [{ fn := 18, N := 13, env := [(0, AV.agg (Row.gen [AV.int .i64 a, AV.int .i64 b]))], todo := [.code a18.code], defs := [], rnd := none, ret := false, res := [ARes.tmp 2] }]
theorem f18e_at (a : Int) (b : Int) : enterA tab 18 [AV.agg (Row.gen [AV.int .i64 a, AV.int .i64 b])] = some { fn := 18, N := 13, env := [(0, AV.agg (Row.gen [AV.int .i64 a, AV.int .i64 b]))], todo := [.code a18.code], defs := [], rnd := none, ret := false, res := [ARes.tmp 2] } := rfl
theorem f18p0 (A : Ar) (a : Int) (b : Int) : gfin A tab B1 26 [true, true, true, true, true, true] 18 (f18e a b) [] =
  some ([A.and true (A.and true true), true, true, true, true, true, true, true, true, true, true, true, A.not (decide (4 ≤ a ∧ a ≤ 24)), true, true, A.and true true, A.and (A.ltN 0 1) (A.ltN 0 2), true, true, A.and true (A.ltN 0 2)],
   AV.int .i64 2, none) := by kernel_rfl
theorem f18p1 (A : Ar) (a : Int) (b : Int) : gfin A tab B1 26 [false, false, false, false, false, true] 18 (f18e a b) [] =
  some ([A.and true (A.and true true), true, A.not (decide (1 ≤ b ∧ b ≤ 4)), true, true, true, true, A.and true true, true, A.and (A.ltN 0 1) (A.ltN 1 2), true, true, !A.not (decide (4 ≤ a ∧ a ≤ 24)), true, true, A.and true true, A.and (A.ltN 0 1) (A.ltN 0 2), true, true, A.and true (A.ltN 0 2)],
   AV.int .i64 2, none) := by kernel_rfl
theorem f18p2 (A : Ar) (a : Int) (b : Int) : gfin A tab B1 27 [false, false, false, false, false, false] 18 (f18e a b) [] =
  some ([A.and true (A.and true true), true, !A.not (decide (1 ≤ b ∧ b ≤ 4)), true, true, true, true, A.and true true, true, A.and (A.ltN 0 1) (A.ltN 1 2), true, true, !A.not (decide (4 ≤ a ∧ a ≤ 24)), true, true, A.and true true, A.and (A.ltN 0 1) (A.ltN 0 2), true, true, A.and true (A.ltN 0 2)],
   AV.int .i64 0, none) := by kernel_rfl
def f19e (a : Int) (b : Int) (n : Int) : List AFrame := [{ fn := 19, N := 11, env := [(0, AV.agg (Row.gen [AV.int .i64 a, AV.int .i64 b])), (1, AV.int .i64 n)], todo := [.code a19.code], defs := [], rnd := none, ret := false, res := [ARes.tmp 4] }]
theorem f19e_at (a : Int) (b : Int) (n : Int) : enterA tab 19 [AV.agg (Row.gen [AV.int .i64 a, AV.int .i64 b]), AV.int .i64 n] = some { fn := 19, N := 11, env := [(0, AV.agg (Row.gen [AV.int .i64 a, AV.int .i64 b])), (1, AV.int .i64 n)], todo := [.code a19.code], defs := [], rnd := none, ret := false, res := [ARes.tmp 4] } := rfl
theorem f19p0 (A : Ar) (a : Int) (b : Int) (n : Int) : gfin A tab B1 21 [true] 19 (f19e a b n) [] =
  some ([A.and true (A.and true true), true, A.not (decide (0 ≤ n ∧ n ≤ A.sub b 1)), true, A.and true true, A.inR .i64 (A.sub b 1), A.and (A.ltN 0 1) (A.ltN 1 2), true, true, true, A.and true (A.ltN 0 2)],
   AV.int .i64 6, none) := by kernel_rfl
theorem f19p1 (A : Ar) (a : Int) (b : Int) (n : Int) : gfin A tab B1 22 [false] 19 (f19e a b n) [] =
  some ([A.and true (A.and true true), true, !A.not (decide (0 ≤ n ∧ n ≤ A.sub b 1)), true, A.and true true, A.inR .i64 (A.sub b 1), A.and (A.ltN 0 1) (A.ltN 1 2), true, true, true, A.and true (A.ltN 0 2)],
   AV.int .i64 0, none) := by kernel_rfl
def f63e (a : Int) (b : Int) : List AFrame := [{ fn := 63, N := 12, env := [(0, AV.agg (Row.gen [AV.int .i64 a, AV.int .i64 b]))], todo := [.code a63.code], defs := [], rnd := none, ret := false, res := [ARes.tmp 2] }]
theorem f63e_at (a : Int) (b : Int) : enterA tab 63 [AV.agg (Row.gen [AV.int .i64 a, AV.int .i64 b])] = some { fn := 63, N := 12, env := [(0, AV.agg (Row.gen [AV.int .i64 a, AV.int .i64 b]))], todo := [.code a63.code], defs := [], rnd := none, ret := false, res := [ARes.tmp 2] } := rfl
theorem f63p0 (A : Ar) (a : Int) (b : Int) : gfin A tab B1 20 [true, true, true, true] 63 (f63e a b) [] =
  some ([A.and true (A.and true true), true, A.and true true, true, true, A.and true true, true, A.and (A.ltN 0 1) (A.ltN 1 2), true, true, decide (4 ≤ a ∧ a ≤ 24), true, A.and true true, A.and (A.ltN 0 1) (A.ltN 0 2), true, true, A.and true (A.ltN 0 2)],
   AV.int .i64 (unlessE (decide (1 ≤ b ∧ b ≤ 4)) 2), none) := by kernel_rfl
theorem f63p1 (A : Ar) (a : Int) (b : Int) : gfin A tab B1 20 [false, false, false, false] 63 (f63e a b) [] =
  some ([A.and true (A.and true true), true, A.and true true, true, true, true, true, true, true, true, !decide (4 ≤ a ∧ a ≤ 24), true, A.and true true, A.and (A.ltN 0 1) (A.ltN 0 2), true, true, A.and true (A.ltN 0 2)],
   AV.int .i64 2, none) := by kernel_rfl
def f131e (a : Int) (b : Int) (n : Int) : List AFrame := [{ fn := 131, N := 12, env := [(0, AV.agg (Row.gen [AV.int .i64 a, AV.int .i64 b])), (1, AV.int .i64 n)], todo := [.code a131.code], defs := [], rnd := none, ret := false, res := [ARes.tmp 4] }]
theorem f131e_at (a : Int) (b : Int) (n : Int) : enterA tab 131 [AV.agg (Row.gen [AV.int .i64 a, AV.int .i64 b]), AV.int .i64 n] = some { fn := 131, N := 12, env := [(0, AV.agg (Row.gen [AV.int .i64 a, AV.int .i64 b])), (1, AV.int .i64 n)], todo := [.code a131.code], defs := [], rnd := none, ret := false, res := [ARes.tmp 4] } := rfl
theorem f131p0 (A : Ar) (a : Int) (b : Int) (n : Int) : gfin A tab B1 18 [] 131 (f131e a b n) [] =
  some ([A.and true (A.and true true), true, A.and true true, A.and true true, true, A.and (A.ltN 0 1) (A.ltN 1 2), true, true, true, true, A.and true (A.ltN 0 2)],
   AV.int .i64 (unlessE (decide (0 ≤ n ∧ n ≤ Go.IntKind.wrap .i64 (A.sub b 1))) 6), none) := by kernel_rfl
def f94e (xs : List Int) : List AFrame := [{ fn := 94, N := 5, env := [(0, AV.list (.ints .i64 xs))], todo := [.code a94.code], defs := [], rnd := none, ret := false, res := [ARes.tmp 2] }]
theorem f94e_at (xs : List Int) : enterA tab 94 [AV.list (.ints .i64 xs)] = some { fn := 94, N := 5, env := [(0, AV.list (.ints .i64 xs))], todo := [.code a94.code], defs := [], rnd := none, ret := false, res := [ARes.tmp 2] } := rfl
theorem f94p0 (A : Ar) (xs : List Int) : gfin A tab B1 11 [] 94 (f94e xs) [] =
  some ([A.and true (A.and true true), true, A.and true (decide (List.length xs ≤ 1000000)), true, true],
   AV.int .i64 (bytesE xs), none) := by kernel_rfl
def f113e (xs : List AV) : List AFrame := [{ fn := 113, N := 36, env := [(0, AV.list (Row.big (Sh.ints .i64) xs))], todo := [.code a113.code], defs := [], rnd := none, ret := false, res := [ARes.tmp 2] }]
theorem f113e_at (xs : List AV) : enterA tab 113 [AV.list (Row.big (Sh.ints .i64) xs)] = some { fn := 113, N := 36, env := [(0, AV.list (Row.big (Sh.ints .i64) xs))], todo := [.code a113.code], defs := [], rnd := none, ret := false, res := [ARes.tmp 2] } := rfl
def f113h113_1a (xs : List AV) (n0 : Int) (n1 : Int) (n2 : Int) : List AFrame := [{ fn := 113, N := 36, env := [(0, AV.list (Row.big (Sh.ints .i64) xs)), (3, AV.int .i64 n1), (9, AV.list (Row.big (Sh.ints .i64) xs)), (10, AV.int .i64 n0), (11, AV.int .i64 n2)], todo := .code (ACode.gh [] l113_1) :: k113_1, defs := [], rnd := none, ret := false, res := [ARes.tmp 2] }]
def f113h113_1am (xs : List AV) (n0 : Int) (n1 : Int) (n2 : Int) : AHeap := []
def f113h113_0a (xs : List AV) (j3 : Nat) (n4 : Int) (l5 : List Int) (n6 : Int) : List AFrame := [{ fn := 113, N := 36, env := [(6, AV.slc 136023 0 0 j3 none), (25, AV.list (Row.big (Sh.ints .i64) xs)), (26, AV.int .i64 n4), (27, AV.int .i64 n6)], todo := .code (ACode.gh [] l113_0) :: k113_0, defs := [], rnd := none, ret := false, res := [ARes.tmp 2] }]
def f113h113_0am (xs : List AV) (j3 : Nat) (n4 : Int) (l5 : List Int) (n6 : Int) : AHeap := [(136023, { base := 0, blks := [Blk.row 3 1 (.ints .i64 l5)] })]
theorem f113p0 (A : Ar) (xs : List AV) : gwalkL A tab B1 18 [] (f113e xs) [] =
  some ([true, true, true, true, true],
   f113h113_1a (xs) (A.int (A.lenA xs)) (0) (0), f113h113_1am (xs) (A.int (A.lenA xs)) (0) (0)) := by kernel_rfl
theorem f113p1 (A : Ar) (xs : List AV) (n0 : Int) (n1 : Int) (n2 : Int) : gwalkL A tab B1 38 [true, false] (f113h113_1a xs n0 n1 n2) (f113h113_1am xs n0 n1 n2) =
  some ([true, A.inR .i64 (A.add n2 1), !A.lt (A.add n1 (A.int (A.len (AV.toIs (A.nthA xs (A.nat n2)))))) 0, true, true, true, A.inR .i64 (A.add n1 (A.int (A.len (AV.toIs (A.nthA xs (A.nat n2)))))), true, true, true, true, A.eqN 0 0, A.and (A.and (A.le 0 n2) (A.ltN (A.nat n2) (A.lenA xs))) (A.eqN 1 1), A.lt n2 n0, true],
   f113h113_1a (xs) (n0) (A.add n1 (A.int (A.len (AV.toIs (A.nthA xs (A.nat n2)))))) (A.add n2 1), f113h113_1am (xs) (n0) (A.add n1 (A.int (A.len (AV.toIs (A.nthA xs (A.nat n2)))))) (A.add n2 1)) := by kernel_rfl
theorem f113p2 (A : Ar) (xs : List AV) (n0 : Int) (n1 : Int) (n2 : Int) : gwalkL A tab B1 74 [false, false, true] (f113h113_1a xs n0 n1 n2) (f113h113_1am xs n0 n1 n2) =
  some ([true, true, true, true, true, true, true, true, A.and (A.and true (A.le 0 (A.int 0))) (A.and (A.and (A.leN 0 (A.nat (A.int 0))) (A.leN (A.nat (A.int 0)) (A.len (A.rep (A.nat (A.sub n1 (A.sub 0 (A.int 0)))) 0)))) (A.and (A.eqN 1 1) true)), true, true, A.and (A.lt 0 (A.sub n1 (A.sub 0 (A.int 0)))) (A.le (A.sub n1 (A.sub 0 (A.int 0))) 4294967296), true, A.and (A.and true (A.le 0 0)) (A.and (A.and (A.leN 0 (A.nat 0)) (A.leN (A.nat 0) 0)) true), true, true, true, A.lt 0 (A.sub n1 (A.sub 0 (A.int 0))), true, true, true, A.inR .i64 (A.sub n1 (A.sub 0 (A.int 0))), A.inR .i64 (A.sub 0 (A.int 0)), true, true, true, true, true, !A.lt n1 0, true, true, true, true, !A.lt n2 n0, true],
   f113h113_0a (xs) (A.subN (A.nat (A.int 0)) 0) (A.int (A.lenA xs)) (A.rep (A.nat (A.sub n1 (A.sub 0 (A.int 0)))) 0) (0), f113h113_0am (xs) (A.subN (A.nat (A.int 0)) 0) (A.int (A.lenA xs)) (A.rep (A.nat (A.sub n1 (A.sub 0 (A.int 0)))) 0) (0)) := by kernel_rfl
theorem f113p4 (A : Ar) (xs : List AV) (j3 : Nat) (n4 : Int) (l5 : List Int) (n6 : Int) : gwalkL A tab B1 29 [true] (f113h113_0a xs j3 n4 l5 n6) (f113h113_0am xs j3 n4 l5 n6) =
  some ([true, A.inR .i64 (A.add n6 1), true, A.and (A.and true (A.eqN 1 1)) (A.and (A.eqN 3 3) (A.and (A.eqN 1 1) (A.leN (A.addN j3 (A.len (AV.toIs (A.nthA xs (A.nat n6))))) (A.len l5)))), true, true, true, A.eqN 0 0, A.and (A.and (A.le 0 n6) (A.ltN (A.nat n6) (A.lenA xs))) (A.eqN 1 1), A.lt n6 n4, true],
   f113h113_0a (xs) (A.addN j3 (A.len (AV.toIs (A.nthA xs (A.nat n6))))) (n4) (A.app (A.app (A.sub3 l5 0 j3) (AV.toIs (A.nthA xs (A.nat n6)))) (A.sub3 l5 (A.addN j3 (A.len (AV.toIs (A.nthA xs (A.nat n6))))) (A.len l5))) (A.add n6 1), f113h113_0am (xs) (A.addN j3 (A.len (AV.toIs (A.nthA xs (A.nat n6))))) (n4) (A.app (A.app (A.sub3 l5 0 j3) (AV.toIs (A.nthA xs (A.nat n6)))) (A.sub3 l5 (A.addN j3 (A.len (AV.toIs (A.nthA xs (A.nat n6))))) (A.len l5))) (A.add n6 1)) := by kernel_rfl
theorem f113p5 (A : Ar) (xs : List AV) (j3 : Nat) (n4 : Int) (l5 : List Int) (n6 : Int) : gfin A tab B1 14 [false] 113 (f113h113_0a xs j3 n4 l5 n6) (f113h113_0am xs j3 n4 l5 n6) =
  some ([A.and true (A.and (A.eqN j3 (A.len l5)) true), true, true, !A.lt n6 n4, true],
   AV.row 0 0, some { e := 3, sz := 1, r := .ints .i64 l5 }) := by kernel_rfl
def f40e (c : Int) (n : Int) (f : Int) (ds : List Int) : List AFrame := [{ fn := 40, N := 8, env := [(0, AV.agg (Row.gen [AV.int .i64 c, AV.int .i64 n, AV.int .i64 f, AV.list (.ints .i64 ds)]))], todo := [.code a40.code], defs := [], rnd := none, ret := false, res := [ARes.cell 2 true 4] }]
theorem f40e_at (c : Int) (n : Int) (f : Int) (ds : List Int) : enterA tab 40 [AV.agg (Row.gen [AV.int .i64 c, AV.int .i64 n, AV.int .i64 f, AV.list (.ints .i64 ds)])] = some { fn := 40, N := 8, env := [(0, AV.agg (Row.gen [AV.int .i64 c, AV.int .i64 n, AV.int .i64 f, AV.list (.ints .i64 ds)]))], todo := [.code a40.code], defs := [], rnd := none, ret := false, res := [ARes.cell 2 true 4] } := rfl
theorem f40p0 (A : Ar) (c : Int) (n : Int) (f : Int) (ds : List Int) : gfin A tab B1 19 [] 40 (f40e c n f ds) [] =
  some ([A.and (A.and (A.and (A.ltN 0 1) (A.leN (A.addN 0 4) 4)) true) (A.and true true), A.and (A.ltN 0 1) (A.eqN 4 4), A.and (A.ltN 0 1) (A.leN (A.addN 0 4) 4), A.and (A.ltN 0 1) (A.and (A.and true (A.eqN 1 1)) (A.ltN 3 4)), true, A.and true (decide (List.length ds ≤ 4294967296)), A.and (A.ltN 0 1) (A.ltN 3 4), true, A.and true (A.ltN 0 4), A.and true (A.ltN 0 4)],
   AV.agg (Row.gen [.int .i64 c, .int .i64 n, .int .i64 f, .list (.ints .i64 ds)]), none) := by kernel_rfl
def f100e (n : Int) : List AFrame := [{ fn := 100, N := 5, env := [(0, AV.int .i64 n)], todo := [.code a100.code], defs := [], rnd := none, ret := false, res := [ARes.tmp 2] }]
theorem f100e_at (n : Int) : enterA tab 100 [AV.int .i64 n] = some { fn := 100, N := 5, env := [(0, AV.int .i64 n)], todo := [.code a100.code], defs := [], rnd := none, ret := false, res := [ARes.tmp 2] } := rfl
theorem f100p0 (A : Ar) (n : Int) : gfin A tab B1 11 [] 100 (f100e n) [] =
  some ([A.and true (A.and true true), true, A.and true true, true, true],
   AV.bool (decide (0 ≤ n ∧ n ≤ 63)), none) := by kernel_rfl
def f93e (n : Int) : List AFrame := [{ fn := 93, N := 5, env := [(0, AV.int .i64 n)], todo := [.code a93.code], defs := [], rnd := none, ret := false, res := [ARes.tmp 2] }]
theorem f93e_at (n : Int) : enterA tab 93 [AV.int .i64 n] = some { fn := 93, N := 5, env := [(0, AV.int .i64 n)], todo := [.code a93.code], defs := [], rnd := none, ret := false, res := [ARes.tmp 2] } := rfl
theorem f93p0 (A : Ar) (n : Int) : gfin A tab B1 11 [] 93 (f93e n) [] =
  some ([A.and true (A.and true true), true, A.and true true, true, true],
   AV.bool (decide (0 ≤ n ∧ n ≤ 255)), none) := by kernel_rfl
end Go.Proofs.Ytjhdnpmojhkbjaa
/- Contracts as a list. No condition. -/
namespace Go.Proofs.Ytjhdnpmojhkbjaa
def wr (n : Int) : Int := Go.IntKind.wrap .i64 n
theorem wr_id {n : Int} (h : -9223372036854775808 ≤ n ∧ n ≤ 9223372036854775807) : wr n = n := wrap_inR (k := .i64) (by rw [s_inR64]; exact decide_eq_true h)
def rulesB (a b : Int) : Bool := decide ((4 ≤ a ∧ a ≤ 24) ∧ 1 ≤ b ∧ b ≤ 4)
def rulesE (a b : Int) : Int := if rulesB a b = true then 0 else 2
def chanE (b n : Int) : Int := if 0 ≤ n ∧ n ≤ b - 1 then 0 else 6
def chanW (b n : Int) : Int := if 0 ≤ n ∧ n ≤ wr (b - 1) then 0 else 6
theorem rules18_ok (a b : Int) : Pure Try.prog 18 [.agg (.gen [.int .i64 a, .int .i64 b])] (.int .i64 (rulesE a b)) none :=
  start (f18e_at a b) fun C hC => by
    by_cases h1 : 4 ≤ a ∧ a ≤ 24
    · by_cases h2 : 1 ≤ b ∧ b ≤ 4
      · exact fin hC B1_ok (f18p2 std a b) (by simp [h1, h2]) (by simp [rulesE, rulesB, h1, h2]) rfl
      · exact fin hC B1_ok (f18p1 std a b) (by simp [h1]; omega) (by simp [rulesE, rulesB, h2]) rfl
    · exact fin hC B1_ok (f18p0 std a b) (by simp; omega) (by simp [rulesE, rulesB, h1]) rfl
theorem rules63_ok (a b : Int) : Pure Try.prog 63 [.agg (.gen [.int .i64 a, .int .i64 b])] (.int .i64 (rulesE a b)) none :=
  start (f63e_at a b) fun C hC => by
    by_cases h1 : 4 ≤ a ∧ a ≤ 24
    · exact fin hC B1_ok (f63p0 std a b) (by simp [h1]) (by by_cases h2 : 1 ≤ b ∧ b ≤ 4 <;> simp [rulesE, rulesB, h1, h2, unlessE]) rfl
    · exact fin hC B1_ok (f63p1 std a b) (by simp; omega) (by simp [rulesE, rulesB, h1]) rfl
theorem chan19_ok (a b n : Int) (h : -1000000 ≤ b ∧ b ≤ 1000000) : Pure Try.prog 19 [.agg (.gen [.int .i64 a, .int .i64 b]), .int .i64 n] (.int .i64 (chanE b n)) none :=
  start (f19e_at a b n) fun C hC => by
    by_cases h1 : 0 ≤ n ∧ n ≤ b - 1
    · exact fin hC B1_ok (f19p1 std a b n) (by simp [h1.1]; omega) (by rw [chanE, if_pos h1]) rfl
    · exact fin hC B1_ok (f19p0 std a b n) (by simp; exact ⟨decide_eq_false h1, by omega, by omega⟩) (by rw [chanE, if_neg h1]) rfl
theorem chan131_ok (a b n : Int) : Pure Try.prog 131 [.agg (.gen [.int .i64 a, .int .i64 b]), .int .i64 n] (.int .i64 (chanW b n)) none :=
  start (f131e_at a b n) fun C hC => fin hC B1_ok (f131p0 std a b n) (by simp) (by
    show AV.int .i64 (unlessE (decide (0 ≤ n ∧ n ≤ wr (b - 1))) 6) = _
    by_cases h : 0 ≤ n ∧ n ≤ wr (b - 1) <;> simp [chanW, unlessE, h]) rfl
theorem bytes94_ok (xs : List Int) (h : xs.length ≤ 1000000) : Pure Try.prog 94 [.list (.ints .i64 xs)] (.int .i64 (bytesE xs)) none :=
  start (f94e_at xs) fun C hC => fin hC B1_ok (f94p0 std xs) (by simp [h]) rfl rfl
theorem concat_row (x y : AV) (a b : List Int) (hx : x.toIs = a) (hy : y.toIs = b) (h : 0 < a.length + b.length ∧ a.length + b.length ≤ 1000000) : Pure Try.prog 113 [.list (.big (.ints .i64) [x, y])] (.row 0 0) (some ⟨3, 1, .ints .i64 (a ++ b)⟩) :=
  start (f113e_at [x, y]) fun C hC => by
    refine go hC B1_ok (f113p0 std [x, y]) (by simp) ?_
    refine go hC B1_ok (f113p1 std [x, y] _ _ _) (by simp [hx]; omega) ?_
    refine go hC B1_ok (f113p1 std [x, y] _ _ _) (by simp [hx, hy]; omega) ?_
    refine go hC B1_ok (f113p2 std [x, y] _ _ _) (by simp [hx, hy]; omega) ?_
    refine go hC B1_ok (f113p4 std [x, y] _ _ _ _) (by simp [hx, hy]; omega) ?_
    refine go hC B1_ok (f113p4 std [x, y] _ _ _ _) (by simp [hx, hy]; omega) ?_
    refine fin hC B1_ok (f113p5 std [x, y] _ _ _ _) (by simp [hx, hy]; omega) rfl ?_
    simp [hx, hy]
    omega
theorem concat_ok (a b : List Int) (h : 0 < a.length + b.length ∧ a.length + b.length ≤ 1000000) : Pure Try.prog 113 [.list (.gen [.list (.ints .i64 a), .list (.ints .i64 b)])] (.list (.ints .i64 (a ++ b))) newF := by
  have := new_row (concat_row (.list (.ints .i64 a)) (.list (.ints .i64 b)) a b rfl rfl h) rfl rfl
  exact pure_arg (xs := []) (ys := []) this rfl
theorem copy40_ok (c n f : Int) (ds : List Int) (h : ds.length ≤ 4294967296) : Pure Try.prog 40 [.agg (.gen [.int .i64 c, .int .i64 n, .int .i64 f, .list (.ints .i64 ds)])] (.agg (.gen [.int .i64 c, .int .i64 n, .int .i64 f, .list (.ints .i64 ds)])) none :=
  start (f40e_at c n f ds) fun C hC => fin hC B1_ok (f40p0 std c n f ds) (by simp [h]) rfl rfl
theorem count100_ok (n : Int) : Pure Try.prog 100 [.int .i64 n] (.bool (decide (0 ≤ n ∧ n ≤ 63))) none :=
  start (f100e_at n) fun C hC => fin hC B1_ok (f100p0 std n) (by simp) rfl rfl
theorem byte93_ok (n : Int) : Pure Try.prog 93 [.int .i64 n] (.bool (byteB n)) none :=
  start (f93e_at n) fun C hC => fin hC B1_ok (f93p0 std n) (by simp) rfl rfl
def k100 : Ctr := ⟨100, 0, fun _ a => match a with | [.int .i64 n] => some (true, .bool (decide (0 ≤ n ∧ n ≤ 63)), none) | _ => none⟩
theorem k100_ok : k100.OK Try.prog := fun pa args r fr h => by
  simp only [k100] at h
  split at h
  · cases h
    exact count100_ok _
  · cases h
def k93 : Ctr := ⟨93, 0, fun _ a => match a with | [.int .i64 n] => some (true, .bool (byteB n), none) | _ => none⟩
theorem k93_ok : k93.OK Try.prog := fun pa args r fr h => by
  simp only [k93] at h
  split at h
  · cases h
    exact byte93_ok _
  · cases h
def k18 : Ctr := ⟨18, 0, fun _ a => match a with | [.agg (.gen [.int .i64 a, .int .i64 b])] => some (true, .int .i64 (rulesE a b), none) | _ => none⟩
theorem k18_ok : k18.OK Try.prog := fun pa args r fr h => by
  simp only [k18] at h
  split at h
  · cases h
    exact rules18_ok _ _
  · cases h
def k63 : Ctr := ⟨63, 0, fun _ a => match a with | [.agg (.gen [.int .i64 a, .int .i64 b])] => some (true, .int .i64 (rulesE a b), none) | _ => none⟩
theorem k63_ok : k63.OK Try.prog := fun pa args r fr h => by
  simp only [k63] at h
  split at h
  · cases h
    exact rules63_ok _ _
  · cases h
def k19 : Ctr := ⟨19, 0, fun _ a => match a with | [.agg (.gen [.int .i64 a, .int .i64 b]), .int .i64 n] => some (decide (-1000000 ≤ b ∧ b ≤ 1000000), .int .i64 (chanE b n), none) | _ => none⟩
theorem k19_ok : k19.OK Try.prog := fun pa args r fr h => by
  simp only [k19] at h
  split at h
  · simp only [Option.some.injEq, Prod.mk.injEq, decide_eq_true_eq] at h
    obtain ⟨h0, rfl, rfl⟩ := h
    exact chan19_ok _ _ _ h0
  · cases h
def k131 : Ctr := ⟨131, 0, fun _ a => match a with | [.agg (.gen [.int .i64 a, .int .i64 b]), .int .i64 n] => some (true, .int .i64 (chanW b n), none) | _ => none⟩
theorem k131_ok : k131.OK Try.prog := fun pa args r fr h => by
  simp only [k131] at h
  split at h
  · cases h
    exact chan131_ok _ _ _
  · cases h
def k94 : Ctr := ⟨94, 0, fun _ a => match a with | [.list (.ints .i64 xs)] => some (decide (xs.length ≤ 1000000), .int .i64 (bytesE xs), none) | _ => none⟩
theorem k94_ok : k94.OK Try.prog := fun pa args r fr h => by
  simp only [k94] at h
  split at h
  · simp only [Option.some.injEq, Prod.mk.injEq, decide_eq_true_eq] at h
    obtain ⟨h0, rfl, rfl⟩ := h
    exact bytes94_ok _ h0
  · cases h
def k113 : Ctr := ⟨113, 0, fun _ a => match a with | [.list (.gen [.list (.ints .i64 a), .list (.ints .i64 b)])] => some (decide (0 < a.length + b.length ∧ a.length + b.length ≤ 1000000), .list (.ints .i64 (a ++ b)), newF) | _ => none⟩
theorem k113_ok : k113.OK Try.prog := fun pa args r fr h => by
  simp only [k113] at h
  split at h
  · simp only [Option.some.injEq, Prod.mk.injEq, decide_eq_true_eq] at h
    obtain ⟨h0, rfl, rfl⟩ := h
    exact concat_ok _ _ h0
  · cases h
def k40 : Ctr := ⟨40, 0, fun _ a => match a with | [.agg (.gen [.int .i64 c, .int .i64 n, .int .i64 f, .list (.ints .i64 ds)])] => some (decide (ds.length ≤ 4294967296), .agg (.gen [.int .i64 c, .int .i64 n, .int .i64 f, .list (.ints .i64 ds)]), none) | _ => none⟩
theorem k40_ok : k40.OK Try.prog := fun pa args r fr h => by
  simp only [k40] at h
  split at h
  · simp only [Option.some.injEq, Prod.mk.injEq, decide_eq_true_eq] at h
    obtain ⟨h0, rfl, rfl⟩ := h
    exact copy40_ok _ _ _ _ h0
  · cases h
def B2 : List Ctr := [k100, k93, k18, k63, k19, k131, k94, k113, k40] ++ B1
theorem B2_ok : CtrsOK Try.prog B2 := ⟨k100_ok, ⟨k93_ok, ⟨k18_ok, ⟨k63_ok, ⟨k19_ok, ⟨k131_ok, ⟨k94_ok, ⟨k113_ok, ⟨k40_ok, B1_ok⟩⟩⟩⟩⟩⟩⟩⟩⟩
end Go.Proofs.Ytjhdnpmojhkbjaa
/- Paths of functions, printed by the explorer (Gx). No condition. -/
namespace Go.Proofs.Ytjhdnpmojhkbjaa
set_option maxRecDepth 100000
set_option linter.unusedVariables false
def f64e (a : Int) (b : Int) (c : Int) (n : Int) (f : Int) (ds : List Int) : List AFrame := [{ fn := 64, N := 40, env := [(0, AV.agg (Row.gen [AV.int .i64 a, AV.int .i64 b])), (1, AV.agg (Row.gen [AV.int .i64 c, AV.int .i64 n, AV.int .i64 f, AV.list (.ints .i64 ds)]))], todo := [.code a64.code], defs := [], rnd := none, ret := false, res := [ARes.tmp 4] }]
theorem f64e_at (a : Int) (b : Int) (c : Int) (n : Int) (f : Int) (ds : List Int) : enterA tab 64 [AV.agg (Row.gen [AV.int .i64 a, AV.int .i64 b]), AV.agg (Row.gen [AV.int .i64 c, AV.int .i64 n, AV.int .i64 f, AV.list (.ints .i64 ds)])] = some { fn := 64, N := 40, env := [(0, AV.agg (Row.gen [AV.int .i64 a, AV.int .i64 b])), (1, AV.agg (Row.gen [AV.int .i64 c, AV.int .i64 n, AV.int .i64 f, AV.list (.ints .i64 ds)]))], todo := [.code a64.code], defs := [], rnd := none, ret := false, res := [ARes.tmp 4] } := rfl
theorem f64p0 (A : Ar) (a : Int) (b : Int) (c : Int) (n : Int) (f : Int) (ds : List Int) : gfin A tab B2 27 [true] 64 (f64e a b c n f ds) [] =
  some ([A.and true (A.and true true), true, true, A.not (A.eq (chanE b c) 0), true, true, true, A.and true (decide (-1000000 ≤ b ∧ b ≤ 1000000)), A.and (A.ltN 0 1) (A.ltN 0 4), true, A.and (A.ltN 0 1) (A.leN (A.addN 0 2) 2), true, A.and true (A.ltN 0 4), A.and true (A.ltN 0 2)],
   AV.int .i64 (chanE b c), none) := by kernel_rfl
theorem f64p1 (A : Ar) (a : Int) (b : Int) (c : Int) (n : Int) (f : Int) (ds : List Int) : gfin A tab B2 51 [false, true, true, true, true, true, true, true, true, true, true, true] 64 (f64e a b c n f ds) [] =
  some ([A.and true (A.and true true), true, true, true, true, true, true, true, true, true, true, true, true, true, true, true, true, true, true, true, true, true, true, true, true, A.not (decide (0 ≤ n ∧ n ≤ 63)), true, true, A.and true true, A.and (A.ltN 0 1) (A.ltN 1 4), true, !A.not (A.eq (chanE b c) 0), true, true, true, A.and true (decide (-1000000 ≤ b ∧ b ≤ 1000000)), A.and (A.ltN 0 1) (A.ltN 0 4), true, A.and (A.ltN 0 1) (A.leN (A.addN 0 2) 2), true, A.and true (A.ltN 0 4), A.and true (A.ltN 0 2)],
   AV.int .i64 2, none) := by kernel_rfl
theorem f64p2 (A : Ar) (a : Int) (b : Int) (c : Int) (n : Int) (f : Int) (ds : List Int) : gfin A tab B2 51 [false, false, false, false, false, false, false, false, false, true, true, true, false, true, false, true] 64 (f64e a b c n f ds) [] =
  some ([A.and true (A.and true true), true, A.not (A.eq f 255), true, true, true, true, true, true, true, A.and (A.ltN 0 1) (A.ltN 2 4), true, true, A.not (decide (0 ≤ f ∧ f ≤ A.sub a 1)), true, true, true, true, A.and true true, true, A.inR .i64 (A.sub a 1), true, A.and (A.ltN 0 1) (A.ltN 0 2), true, true, true, A.and (A.ltN 0 1) (A.ltN 2 4), true, true, !A.not (decide (0 ≤ n ∧ n ≤ 63)), true, true, A.and true true, A.and (A.ltN 0 1) (A.ltN 1 4), true, !A.not (A.eq (chanE b c) 0), true, true, true, A.and true (decide (-1000000 ≤ b ∧ b ≤ 1000000)), A.and (A.ltN 0 1) (A.ltN 0 4), true, A.and (A.ltN 0 1) (A.leN (A.addN 0 2) 2), true, A.and true (A.ltN 0 4), A.and true (A.ltN 0 2)],
   AV.int .i64 2, none) := by kernel_rfl
theorem f64p3 (A : Ar) (a : Int) (b : Int) (c : Int) (n : Int) (f : Int) (ds : List Int) : gfin A tab B2 63 [false, false, false, false, false, false, false, false, false, true, true, true, false, true, false, false, true] 64 (f64e a b c n f ds) [] =
  some ([A.and true (A.and true true), true, A.not (A.eq (A.int (A.len ds)) a), true, A.and (A.ltN 0 1) (A.ltN 0 2), true, true, A.and (A.ltN 0 1) (A.ltN 3 4), true, !A.not (A.eq f 255), true, true, true, true, true, true, true, A.and (A.ltN 0 1) (A.ltN 2 4), true, true, A.not (decide (0 ≤ f ∧ f ≤ A.sub a 1)), true, true, true, true, A.and true true, true, A.inR .i64 (A.sub a 1), true, A.and (A.ltN 0 1) (A.ltN 0 2), true, true, true, A.and (A.ltN 0 1) (A.ltN 2 4), true, true, !A.not (decide (0 ≤ n ∧ n ≤ 63)), true, true, A.and true true, A.and (A.ltN 0 1) (A.ltN 1 4), true, !A.not (A.eq (chanE b c) 0), true, true, true, A.and true (decide (-1000000 ≤ b ∧ b ≤ 1000000)), A.and (A.ltN 0 1) (A.ltN 0 4), true, A.and (A.ltN 0 1) (A.leN (A.addN 0 2) 2), true, A.and true (A.ltN 0 4), A.and true (A.ltN 0 2)],
   AV.int .i64 10, none) := by kernel_rfl
theorem f64p4 (A : Ar) (a : Int) (b : Int) (c : Int) (n : Int) (f : Int) (ds : List Int) : gfin A tab B2 67 [false, false, false, false, false, false, false, false, false, true, true, true, false, true, false, false, false] 64 (f64e a b c n f ds) [] =
  some ([A.and true (A.and true true), true, A.and true (decide (List.length ds ≤ 1000000)), A.and (A.ltN 0 1) (A.ltN 3 4), true, !A.not (A.eq (A.int (A.len ds)) a), true, A.and (A.ltN 0 1) (A.ltN 0 2), true, true, A.and (A.ltN 0 1) (A.ltN 3 4), true, !A.not (A.eq f 255), true, true, true, true, true, true, true, A.and (A.ltN 0 1) (A.ltN 2 4), true, true, A.not (decide (0 ≤ f ∧ f ≤ A.sub a 1)), true, true, true, true, A.and true true, true, A.inR .i64 (A.sub a 1), true, A.and (A.ltN 0 1) (A.ltN 0 2), true, true, true, A.and (A.ltN 0 1) (A.ltN 2 4), true, true, !A.not (decide (0 ≤ n ∧ n ≤ 63)), true, true, A.and true true, A.and (A.ltN 0 1) (A.ltN 1 4), true, !A.not (A.eq (chanE b c) 0), true, true, true, A.and true (decide (-1000000 ≤ b ∧ b ≤ 1000000)), A.and (A.ltN 0 1) (A.ltN 0 4), true, A.and (A.ltN 0 1) (A.leN (A.addN 0 2) 2), true, A.and true (A.ltN 0 4), A.and true (A.ltN 0 2)],
   AV.int .i64 (bytesE ds), none) := by kernel_rfl
theorem f64p5 (A : Ar) (a : Int) (b : Int) (c : Int) (n : Int) (f : Int) (ds : List Int) : gfin A tab B2 63 [false, false, false, false, false, false, false, false, false, false, false, false, false, false, false, false, true] 64 (f64e a b c n f ds) [] =
  some ([A.and true (A.and true true), true, A.not (A.eq (A.int (A.len ds)) a), true, A.and (A.ltN 0 1) (A.ltN 0 2), true, true, A.and (A.ltN 0 1) (A.ltN 3 4), true, true, true, true, true, true, true, true, true, true, true, true, !A.not (decide (0 ≤ f ∧ f ≤ A.sub a 1)), true, true, true, true, A.and true true, true, A.inR .i64 (A.sub a 1), true, A.and (A.ltN 0 1) (A.ltN 0 2), true, true, true, A.and (A.ltN 0 1) (A.ltN 2 4), true, true, !A.not (decide (0 ≤ n ∧ n ≤ 63)), true, true, A.and true true, A.and (A.ltN 0 1) (A.ltN 1 4), true, !A.not (A.eq (chanE b c) 0), true, true, true, A.and true (decide (-1000000 ≤ b ∧ b ≤ 1000000)), A.and (A.ltN 0 1) (A.ltN 0 4), true, A.and (A.ltN 0 1) (A.leN (A.addN 0 2) 2), true, A.and true (A.ltN 0 4), A.and true (A.ltN 0 2)],
   AV.int .i64 10, none) := by kernel_rfl
theorem f64p6 (A : Ar) (a : Int) (b : Int) (c : Int) (n : Int) (f : Int) (ds : List Int) : gfin A tab B2 67 [false, false, false, false, false, false, false, false, false, false, false, false, false, false, false, false, false] 64 (f64e a b c n f ds) [] =
  some ([A.and true (A.and true true), true, A.and true (decide (List.length ds ≤ 1000000)), A.and (A.ltN 0 1) (A.ltN 3 4), true, !A.not (A.eq (A.int (A.len ds)) a), true, A.and (A.ltN 0 1) (A.ltN 0 2), true, true, A.and (A.ltN 0 1) (A.ltN 3 4), true, true, true, true, true, true, true, true, true, true, true, true, !A.not (decide (0 ≤ f ∧ f ≤ A.sub a 1)), true, true, true, true, A.and true true, true, A.inR .i64 (A.sub a 1), true, A.and (A.ltN 0 1) (A.ltN 0 2), true, true, true, A.and (A.ltN 0 1) (A.ltN 2 4), true, true, !A.not (decide (0 ≤ n ∧ n ≤ 63)), true, true, A.and true true, A.and (A.ltN 0 1) (A.ltN 1 4), true, !A.not (A.eq (chanE b c) 0), true, true, true, A.and true (decide (-1000000 ≤ b ∧ b ≤ 1000000)), A.and (A.ltN 0 1) (A.ltN 0 4), true, A.and (A.ltN 0 1) (A.leN (A.addN 0 2) 2), true, A.and true (A.ltN 0 4), A.and true (A.ltN 0 2)],
   AV.int .i64 (bytesE ds), none) := by kernel_rfl
def f110e (a : Int) (b : Int) (c : Int) (n : Int) (f : Int) (ds : List Int) : List AFrame := [{ fn := 110, N := 40, env := [(0, AV.agg (Row.gen [AV.int .i64 a, AV.int .i64 b])), (1, AV.agg (Row.gen [AV.int .i64 c, AV.int .i64 n, AV.int .i64 f, AV.list (.ints .i64 ds)]))], todo := [.code a110.code], defs := [], rnd := none, ret := false, res := [ARes.tmp 4] }]
theorem f110e_at (a : Int) (b : Int) (c : Int) (n : Int) (f : Int) (ds : List Int) : enterA tab 110 [AV.agg (Row.gen [AV.int .i64 a, AV.int .i64 b]), AV.agg (Row.gen [AV.int .i64 c, AV.int .i64 n, AV.int .i64 f, AV.list (.ints .i64 ds)])] = some { fn := 110, N := 40, env := [(0, AV.agg (Row.gen [AV.int .i64 a, AV.int .i64 b])), (1, AV.agg (Row.gen [AV.int .i64 c, AV.int .i64 n, AV.int .i64 f, AV.list (.ints .i64 ds)]))], todo := [.code a110.code], defs := [], rnd := none, ret := false, res := [ARes.tmp 4] } := rfl
theorem f110p0 (A : Ar) (a : Int) (b : Int) (c : Int) (n : Int) (f : Int) (ds : List Int) : gfin A tab B2 10 [true, true] 110 (f110e a b c n f ds) [] =
  some ([A.and true (A.and true true), true, A.and (A.and true true) (decide (List.length [chanW b c, 0, unlessE (A.eq (A.int (A.len ds)) a) 10, bytesE ds] ≤ 1000000)), List.all [AV.int .i64 (chanW b c), AV.int .i64 0, AV.int .i64 (unlessE (A.eq (A.int (A.len ds)) a) 10), AV.int .i64 (bytesE ds)] fun x => AV.bx x && Nat.beq (flatLen A x) 1, A.and true (decide (List.length ds ≤ 1000000)), A.and (A.ltN 0 1) (A.ltN 3 4), true, A.and true true, true, A.and (A.ltN 0 1) (A.ltN 0 2), true, true, true, A.and (A.ltN 0 1) (A.ltN 3 4), true, A.and true true, true, true, true, true, true, decide (0 ≤ f ∧ f ≤ Go.IntKind.wrap .i64 (A.sub a 1)), true, A.and true true, true, A.and (A.ltN 0 1) (A.ltN 0 2), true, true, A.and (A.ltN 0 1) (A.ltN 2 4), true, decide (0 ≤ n ∧ n ≤ 63), true, A.and true true, A.and (A.ltN 0 1) (A.ltN 1 4), true, A.and true true, A.and (A.ltN 0 1) (A.ltN 0 4), true, A.and (A.ltN 0 1) (A.leN (A.addN 0 2) 2), true, A.and true (A.ltN 0 4), A.and true (A.ltN 0 2)],
   AV.int .i64 (firstE [chanW b c, 0, unlessE (A.eq (A.int (A.len ds)) a) 10, bytesE ds]), none) := by kernel_rfl
theorem f110p1 (A : Ar) (a : Int) (b : Int) (c : Int) (n : Int) (f : Int) (ds : List Int) : gfin A tab B2 10 [true, false] 110 (f110e a b c n f ds) [] =
  some ([A.and true (A.and true true), true, A.and (A.and true true) (decide (List.length [chanW b c, unlessE (A.eq f 255) 2, unlessE (A.eq (A.int (A.len ds)) a) 10, bytesE ds] ≤ 1000000)), List.all [AV.int .i64 (chanW b c), AV.int .i64 (unlessE (A.eq f 255) 2), AV.int .i64 (unlessE (A.eq (A.int (A.len ds)) a) 10), AV.int .i64 (bytesE ds)] fun x => AV.bx x && Nat.beq (flatLen A x) 1, A.and true (decide (List.length ds ≤ 1000000)), A.and (A.ltN 0 1) (A.ltN 3 4), true, A.and true true, true, A.and (A.ltN 0 1) (A.ltN 0 2), true, true, true, A.and (A.ltN 0 1) (A.ltN 3 4), true, A.and true true, true, true, true, A.and (A.ltN 0 1) (A.ltN 2 4), true, !decide (0 ≤ f ∧ f ≤ Go.IntKind.wrap .i64 (A.sub a 1)), true, A.and true true, true, A.and (A.ltN 0 1) (A.ltN 0 2), true, true, A.and (A.ltN 0 1) (A.ltN 2 4), true, decide (0 ≤ n ∧ n ≤ 63), true, A.and true true, A.and (A.ltN 0 1) (A.ltN 1 4), true, A.and true true, A.and (A.ltN 0 1) (A.ltN 0 4), true, A.and (A.ltN 0 1) (A.leN (A.addN 0 2) 2), true, A.and true (A.ltN 0 4), A.and true (A.ltN 0 2)],
   AV.int .i64 (firstE [chanW b c, unlessE (A.eq f 255) 2, unlessE (A.eq (A.int (A.len ds)) a) 10, bytesE ds]), none) := by kernel_rfl
theorem f110p2 (A : Ar) (a : Int) (b : Int) (c : Int) (n : Int) (f : Int) (ds : List Int) : gfin A tab B2 10 [false] 110 (f110e a b c n f ds) [] =
  some ([A.and true (A.and true true), true, A.and (A.and true true) (decide (List.length [chanW b c, 2, unlessE (A.eq (A.int (A.len ds)) a) 10, bytesE ds] ≤ 1000000)), List.all [AV.int .i64 (chanW b c), AV.int .i64 2, AV.int .i64 (unlessE (A.eq (A.int (A.len ds)) a) 10), AV.int .i64 (bytesE ds)] fun x => AV.bx x && Nat.beq (flatLen A x) 1, A.and true (decide (List.length ds ≤ 1000000)), A.and (A.ltN 0 1) (A.ltN 3 4), true, A.and true true, true, A.and (A.ltN 0 1) (A.ltN 0 2), true, true, true, A.and (A.ltN 0 1) (A.ltN 3 4), true, A.and true true, true, true, true, true, true, true, true, true, true, true, true, true, true, !decide (0 ≤ n ∧ n ≤ 63), true, A.and true true, A.and (A.ltN 0 1) (A.ltN 1 4), true, A.and true true, A.and (A.ltN 0 1) (A.ltN 0 4), true, A.and (A.ltN 0 1) (A.leN (A.addN 0 2) 2), true, A.and true (A.ltN 0 4), A.and true (A.ltN 0 2)],
   AV.int .i64 (firstE [chanW b c, 2, unlessE (A.eq (A.int (A.len ds)) a) 10, bytesE ds]), none) := by kernel_rfl
end Go.Proofs.Ytjhdnpmojhkbjaa
