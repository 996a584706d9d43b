/- Calls at given values. Printed by facts.py. -/
import Derived.Test.YtjhdnpmojhkbjaaA1
import Derived.KernelRfl
namespace Go.Proofs.Ytjhdnpmojhkbjaa
set_option maxRecDepth 1000000
def q0 : Fact := ⟨86, [(.bool true), (.int .i64 10)], (.int .i64 0), none⟩
theorem q0_ok : Pure Try.prog q0.f q0.args q0.r q0.fr := fact_of (n := 100000) (l := []) follows tab_ok trivial (by kernel_rfl)
def q1 : Fact := ⟨86, [(.bool true), (.int .i64 8)], (.int .i64 0), none⟩
theorem q1_ok : Pure Try.prog q1.f q1.args q1.r q1.fr := fact_of (n := 100000) (l := []) follows tab_ok trivial (by kernel_rfl)
def q2 : Fact := ⟨87, [(.int .i64 1), (.int .i64 0), (.int .i64 255)], (.bool true), none⟩
theorem q2_ok : Pure Try.prog q2.f q2.args q2.r q2.fr := fact_of (n := 100000) (l := []) follows tab_ok trivial (by kernel_rfl)
def q3 : Fact := ⟨93, [(.int .i64 1)], (.bool true), none⟩
theorem q3_ok : Pure Try.prog q3.f q3.args q3.r q3.fr := fact_of (n := 100000) (l := [q2]) follows tab_ok ⟨q2_ok, trivial⟩ (by kernel_rfl)
def q4 : Fact := ⟨86, [(.bool true), (.int .i64 2)], (.int .i64 0), none⟩
theorem q4_ok : Pure Try.prog q4.f q4.args q4.r q4.fr := fact_of (n := 100000) (l := []) follows tab_ok trivial (by kernel_rfl)
def q5 : Fact := ⟨128, [(.int .i64 1)], (.int .i64 0), none⟩
theorem q5_ok : Pure Try.prog q5.f q5.args q5.r q5.fr := fact_of (n := 100000) (l := [q3, q4]) follows tab_ok ⟨q3_ok, ⟨q4_ok, trivial⟩⟩ (by kernel_rfl)
def q6 : Fact := ⟨87, [(.int .i64 5), (.int .i64 0), (.int .i64 255)], (.bool true), none⟩
theorem q6_ok : Pure Try.prog q6.f q6.args q6.r q6.fr := fact_of (n := 100000) (l := []) follows tab_ok trivial (by kernel_rfl)
def q7 : Fact := ⟨93, [(.int .i64 5)], (.bool true), none⟩
theorem q7_ok : Pure Try.prog q7.f q7.args q7.r q7.fr := fact_of (n := 100000) (l := [q6]) follows tab_ok ⟨q6_ok, trivial⟩ (by kernel_rfl)
def q8 : Fact := ⟨128, [(.int .i64 5)], (.int .i64 0), none⟩
theorem q8_ok : Pure Try.prog q8.f q8.args q8.r q8.fr := fact_of (n := 100000) (l := [q7, q4]) follows tab_ok ⟨q7_ok, ⟨q4_ok, trivial⟩⟩ (by kernel_rfl)
def q9 : Fact := ⟨87, [(.int .i64 0), (.int .i64 0), (.int .i64 255)], (.bool true), none⟩
theorem q9_ok : Pure Try.prog q9.f q9.args q9.r q9.fr := fact_of (n := 100000) (l := []) follows tab_ok trivial (by kernel_rfl)
def q10 : Fact := ⟨93, [(.int .i64 0)], (.bool true), none⟩
theorem q10_ok : Pure Try.prog q10.f q10.args q10.r q10.fr := fact_of (n := 100000) (l := [q9]) follows tab_ok ⟨q9_ok, trivial⟩ (by kernel_rfl)
def q11 : Fact := ⟨128, [(.int .i64 0)], (.int .i64 0), none⟩
theorem q11_ok : Pure Try.prog q11.f q11.args q11.r q11.fr := fact_of (n := 100000) (l := [q10, q4]) follows tab_ok ⟨q10_ok, ⟨q4_ok, trivial⟩⟩ (by kernel_rfl)
def q12 : Fact := ⟨87, [(.int .i64 7), (.int .i64 0), (.int .i64 255)], (.bool true), none⟩
theorem q12_ok : Pure Try.prog q12.f q12.args q12.r q12.fr := fact_of (n := 100000) (l := []) follows tab_ok trivial (by kernel_rfl)
def q13 : Fact := ⟨93, [(.int .i64 7)], (.bool true), none⟩
theorem q13_ok : Pure Try.prog q13.f q13.args q13.r q13.fr := fact_of (n := 100000) (l := [q12]) follows tab_ok ⟨q12_ok, trivial⟩ (by kernel_rfl)
def q14 : Fact := ⟨128, [(.int .i64 7)], (.int .i64 0), none⟩
theorem q14_ok : Pure Try.prog q14.f q14.args q14.r q14.fr := fact_of (n := 100000) (l := [q13, q4]) follows tab_ok ⟨q13_ok, ⟨q4_ok, trivial⟩⟩ (by kernel_rfl)
def q15 : Fact := ⟨87, [(.int .i64 255), (.int .i64 0), (.int .i64 255)], (.bool true), none⟩
theorem q15_ok : Pure Try.prog q15.f q15.args q15.r q15.fr := fact_of (n := 100000) (l := []) follows tab_ok trivial (by kernel_rfl)
def q16 : Fact := ⟨93, [(.int .i64 255)], (.bool true), none⟩
theorem q16_ok : Pure Try.prog q16.f q16.args q16.r q16.fr := fact_of (n := 100000) (l := [q15]) follows tab_ok ⟨q15_ok, trivial⟩ (by kernel_rfl)
def q17 : Fact := ⟨128, [(.int .i64 255)], (.int .i64 0), none⟩
theorem q17_ok : Pure Try.prog q17.f q17.args q17.r q17.fr := fact_of (n := 100000) (l := [q16, q4]) follows tab_ok ⟨q16_ok, ⟨q4_ok, trivial⟩⟩ (by kernel_rfl)
def q18 : Fact := ⟨127, [(.list (.ints .i64 [1, 5, 0, 7, 0, 0, 255])), (.fn 128 [])], (.int .i64 0), none⟩
theorem q18_ok : Pure Try.prog q18.f q18.args q18.r q18.fr := fact_of (n := 100000) (l := [q5, q8, q11, q14, q17]) follows tab_ok ⟨q5_ok, ⟨q8_ok, ⟨q11_ok, ⟨q14_ok, ⟨q17_ok, trivial⟩⟩⟩⟩⟩ (by kernel_rfl)
def q19 : Fact := ⟨94, [(.list (.ints .i64 [1, 5, 0, 7, 0, 0, 255]))], (.int .i64 0), none⟩
theorem q19_ok : Pure Try.prog q19.f q19.args q19.r q19.fr := fact_of (n := 100000) (l := [q18]) follows tab_ok ⟨q18_ok, trivial⟩ (by kernel_rfl)
def q20 : Fact := ⟨84, [(.list (.ints .i64 [0, 0, 0]))], (.int .i64 0), none⟩
theorem q20_ok : Pure Try.prog q20.f q20.args q20.r q20.fr := fact_of (n := 100000) (l := []) follows tab_ok trivial (by kernel_rfl)
def q21 : Fact := ⟨109, [(.list (.ints .i64 [1, 5, 0, 7, 0, 0, 255]))], (.agg (.ints .i64 [18, 76])), none⟩
theorem q21_ok : Pure Try.prog q21.f q21.args q21.r q21.fr := fact_of (n := 100000) (l := []) follows tab_ok trivial (by kernel_rfl)
def q22 : Fact := ⟨60, [(.list (.ints .i64 [1, 5, 0, 7, 0, 0, 255]))], (.tup [(.int .i64 4684), (.int .i64 0)]), none⟩
theorem q22_ok : Pure Try.prog q22.f q22.args q22.r q22.fr := fact_of (n := 100000) (l := [q0, q1, q19, q20, q21]) follows tab_ok ⟨q0_ok, ⟨q1_ok, ⟨q19_ok, ⟨q20_ok, ⟨q21_ok, trivial⟩⟩⟩⟩⟩ (by kernel_rfl)
def q23 : Fact := ⟨75, [], (.agg (.gen [(.int .i64 4), (.int .i64 2)])), none⟩
theorem q23_ok : Pure Try.prog q23.f q23.args q23.r q23.fr := fact_of (n := 100000) (l := []) follows tab_ok trivial (by kernel_rfl)
def q24 : Fact := ⟨76, [], (.list (.gen [(.agg (.gen [(.int .i64 9), (.int .i64 0), (.list (.ints .i64 [1, 2]))])), (.agg (.gen [(.int .i64 9), (.int .i64 1), (.list (.ints .i64 [3]))]))])), none⟩
theorem q24_ok : Pure Try.prog q24.f q24.args q24.r q24.fr := fact_of (n := 100000) (l := []) follows tab_ok trivial (by kernel_rfl)
def q25 : Fact := ⟨87, [(.int .i64 4), (.int .i64 4), (.int .i64 24)], (.bool true), none⟩
theorem q25_ok : Pure Try.prog q25.f q25.args q25.r q25.fr := fact_of (n := 100000) (l := []) follows tab_ok trivial (by kernel_rfl)
def q26 : Fact := ⟨87, [(.int .i64 2), (.int .i64 1), (.int .i64 4)], (.bool true), none⟩
theorem q26_ok : Pure Try.prog q26.f q26.args q26.r q26.fr := fact_of (n := 100000) (l := []) follows tab_ok trivial (by kernel_rfl)
def q27 : Fact := ⟨63, [(.agg (.gen [(.int .i64 4), (.int .i64 2)]))], (.int .i64 0), none⟩
theorem q27_ok : Pure Try.prog q27.f q27.args q27.r q27.fr := fact_of (n := 100000) (l := [q25, q26, q4]) follows tab_ok ⟨q25_ok, ⟨q26_ok, ⟨q4_ok, trivial⟩⟩⟩ (by kernel_rfl)
def q28 : Fact := ⟨95, [(.agg (.gen [(.int .i64 4), (.int .i64 2)]))], (.tup [(.agg (.gen [(.int .i64 4), (.int .i64 2)])), (.int .i64 0)]), none⟩
theorem q28_ok : Pure Try.prog q28.f q28.args q28.r q28.fr := fact_of (n := 100000) (l := [q27]) follows tab_ok ⟨q27_ok, trivial⟩ (by kernel_rfl)
def q29 : Fact := ⟨87, [(.int .i64 0), (.int .i64 0), (.int .i64 1)], (.bool true), none⟩
theorem q29_ok : Pure Try.prog q29.f q29.args q29.r q29.fr := fact_of (n := 100000) (l := []) follows tab_ok trivial (by kernel_rfl)
def q30 : Fact := ⟨86, [(.bool true), (.int .i64 6)], (.int .i64 0), none⟩
theorem q30_ok : Pure Try.prog q30.f q30.args q30.r q30.fr := fact_of (n := 100000) (l := []) follows tab_ok trivial (by kernel_rfl)
def q31 : Fact := ⟨131, [(.agg (.gen [(.int .i64 4), (.int .i64 2)])), (.int .i64 0)], (.int .i64 0), none⟩
theorem q31_ok : Pure Try.prog q31.f q31.args q31.r q31.fr := fact_of (n := 100000) (l := [q29, q30]) follows tab_ok ⟨q29_ok, ⟨q30_ok, trivial⟩⟩ (by kernel_rfl)
def q32 : Fact := ⟨84, [(.list (.ints .i64 [0, 0]))], (.int .i64 0), none⟩
theorem q32_ok : Pure Try.prog q32.f q32.args q32.r q32.fr := fact_of (n := 100000) (l := []) follows tab_ok trivial (by kernel_rfl)
def q33 : Fact := ⟨99, [(.agg (.gen [(.int .i64 4), (.int .i64 2)])), (.int .i64 0)], (.tup [(.agg (.gen [(.int .i64 4), (.int .i64 2)])), (.int .i64 0)]), none⟩
theorem q33_ok : Pure Try.prog q33.f q33.args q33.r q33.fr := fact_of (n := 100000) (l := [q28, q31, q32]) follows tab_ok ⟨q28_ok, ⟨q31_ok, ⟨q32_ok, trivial⟩⟩⟩ (by kernel_rfl)
def q34 : Fact := ⟨87, [(.int .i64 0), (.int .i64 0), (.int .i64 63)], (.bool true), none⟩
theorem q34_ok : Pure Try.prog q34.f q34.args q34.r q34.fr := fact_of (n := 100000) (l := []) follows tab_ok trivial (by kernel_rfl)
def q35 : Fact := ⟨100, [(.int .i64 0)], (.bool true), none⟩
theorem q35_ok : Pure Try.prog q35.f q35.args q35.r q35.fr := fact_of (n := 100000) (l := [q34]) follows tab_ok ⟨q34_ok, trivial⟩ (by kernel_rfl)
def q36 : Fact := ⟨87, [(.int .i64 9), (.int .i64 0), (.int .i64 255)], (.bool true), none⟩
theorem q36_ok : Pure Try.prog q36.f q36.args q36.r q36.fr := fact_of (n := 100000) (l := []) follows tab_ok trivial (by kernel_rfl)
def q37 : Fact := ⟨93, [(.int .i64 9)], (.bool true), none⟩
theorem q37_ok : Pure Try.prog q37.f q37.args q37.r q37.fr := fact_of (n := 100000) (l := [q36]) follows tab_ok ⟨q36_ok, trivial⟩ (by kernel_rfl)
def q38 : Fact := ⟨128, [(.int .i64 2)], (.int .i64 0), none⟩
theorem q38_ok : Pure Try.prog q38.f q38.args q38.r q38.fr := fact_of (n := 100000) (l := []) follows tab_ok trivial (by kernel_rfl)
def q39 : Fact := ⟨127, [(.list (.ints .i64 [1, 2])), (.fn 128 [])], (.int .i64 0), none⟩
theorem q39_ok : Pure Try.prog q39.f q39.args q39.r q39.fr := fact_of (n := 100000) (l := [q5, q38]) follows tab_ok ⟨q5_ok, ⟨q38_ok, trivial⟩⟩ (by kernel_rfl)
def q40 : Fact := ⟨94, [(.list (.ints .i64 [1, 2]))], (.int .i64 0), none⟩
theorem q40_ok : Pure Try.prog q40.f q40.args q40.r q40.fr := fact_of (n := 100000) (l := [q39]) follows tab_ok ⟨q39_ok, trivial⟩ (by kernel_rfl)
def q41 : Fact := ⟨30, [(.agg (.gen [(.int .i64 9), (.int .i64 0), (.list (.ints .i64 [1, 2]))]))], (.int .i64 0), none⟩
theorem q41_ok : Pure Try.prog q41.f q41.args q41.r q41.fr := fact_of (n := 100000) (l := [q37, q10, q4, q1, q40, q20]) follows tab_ok ⟨q37_ok, ⟨q10_ok, ⟨q4_ok, ⟨q1_ok, ⟨q40_ok, ⟨q20_ok, trivial⟩⟩⟩⟩⟩⟩ (by kernel_rfl)
def q42 : Fact := ⟨128, [(.int .i64 3)], (.int .i64 0), none⟩
theorem q42_ok : Pure Try.prog q42.f q42.args q42.r q42.fr := fact_of (n := 100000) (l := []) follows tab_ok trivial (by kernel_rfl)
def q43 : Fact := ⟨127, [(.list (.ints .i64 [3])), (.fn 128 [])], (.int .i64 0), none⟩
theorem q43_ok : Pure Try.prog q43.f q43.args q43.r q43.fr := fact_of (n := 100000) (l := [q42]) follows tab_ok ⟨q42_ok, trivial⟩ (by kernel_rfl)
def q44 : Fact := ⟨94, [(.list (.ints .i64 [3]))], (.int .i64 0), none⟩
theorem q44_ok : Pure Try.prog q44.f q44.args q44.r q44.fr := fact_of (n := 100000) (l := [q43]) follows tab_ok ⟨q43_ok, trivial⟩ (by kernel_rfl)
def q45 : Fact := ⟨30, [(.agg (.gen [(.int .i64 9), (.int .i64 1), (.list (.ints .i64 [3]))]))], (.int .i64 0), none⟩
theorem q45_ok : Pure Try.prog q45.f q45.args q45.r q45.fr := fact_of (n := 100000) (l := [q37, q3, q4, q1, q44, q20]) follows tab_ok ⟨q37_ok, ⟨q3_ok, ⟨q4_ok, ⟨q1_ok, ⟨q44_ok, ⟨q20_ok, trivial⟩⟩⟩⟩⟩⟩ (by kernel_rfl)
def q46 : Fact := ⟨129, [(.list (.gen [(.agg (.gen [(.int .i64 9), (.int .i64 0), (.list (.ints .i64 [1, 2]))])), (.agg (.gen [(.int .i64 9), (.int .i64 1), (.list (.ints .i64 [3]))]))])), (.fn 30 [])], (.int .i64 0), none⟩
theorem q46_ok : Pure Try.prog q46.f q46.args q46.r q46.fr := fact_of (n := 100000) (l := [q41, q45]) follows tab_ok ⟨q41_ok, ⟨q45_ok, trivial⟩⟩ (by kernel_rfl)
def q47 : Fact := ⟨96, [(.list (.gen [(.agg (.gen [(.int .i64 9), (.int .i64 0), (.list (.ints .i64 [1, 2]))])), (.agg (.gen [(.int .i64 9), (.int .i64 1), (.list (.ints .i64 [3]))]))]))], (.int .i64 0), none⟩
theorem q47_ok : Pure Try.prog q47.f q47.args q47.r q47.fr := fact_of (n := 100000) (l := [q1, q46, q32]) follows tab_ok ⟨q1_ok, ⟨q46_ok, ⟨q32_ok, trivial⟩⟩⟩ (by kernel_rfl)
def q48 : Fact := ⟨130, [(.list (.gen [(.agg (.gen [(.int .i64 9), (.int .i64 0), (.list (.ints .i64 [1, 2]))])), (.agg (.gen [(.int .i64 9), (.int .i64 1), (.list (.ints .i64 [3]))]))]))], (.row 0 0), (some ⟨57, 3, (.gen [(.agg (.gen [(.int .i64 9), (.int .i64 0), (.list (.ints .i64 [1, 2]))])), (.agg (.gen [(.int .i64 9), (.int .i64 1), (.list (.ints .i64 [3]))]))])⟩)⟩
theorem q48_ok : Pure Try.prog q48.f q48.args q48.r q48.fr := fact_of (n := 100000) (l := []) follows tab_ok trivial (by kernel_rfl)
def q49 : Fact := ⟨98, [(.agg (.gen [(.int .i64 4), (.int .i64 2)])), (.list (.gen [(.agg (.gen [(.int .i64 9), (.int .i64 0), (.list (.ints .i64 [1, 2]))])), (.agg (.gen [(.int .i64 9), (.int .i64 1), (.list (.ints .i64 [3]))]))]))], (.row 0 0), (some ⟨57, 3, (.big (.agg [(.int .i64), (.int .i64), (.ints .i64)]) [(.agg (.gen [(.int .i64 9), (.int .i64 0), (.list (.ints .i64 [1, 2]))])), (.agg (.gen [(.int .i64 9), (.int .i64 1), (.list (.ints .i64 [3]))])), (.agg (.gen [(.int .i64 255), (.int .i64 0), (.list (.ints .i64 []))]))])⟩)⟩
theorem q49_ok : Pure Try.prog q49.f q49.args q49.r q49.fr := fact_of (n := 100000) (l := [q48]) follows tab_ok ⟨q48_ok, trivial⟩ (by kernel_rfl)
def q50 : Fact := ⟨97, [(.list (.big (.agg [(.int .i64), (.int .i64), (.ints .i64)]) [(.agg (.gen [(.int .i64 9), (.int .i64 0), (.list (.ints .i64 [1, 2]))])), (.agg (.gen [(.int .i64 9), (.int .i64 1), (.list (.ints .i64 [3]))])), (.agg (.gen [(.int .i64 255), (.int .i64 0), (.list (.ints .i64 []))]))]))], (.tup [(.list (.ints .i64 [9, 0, 2, 1, 2, 9, 1, 1, 3, 255, 0, 0])), (.list (.ints .i64 [0, 5, 9]))]), none⟩
theorem q50_ok : Pure Try.prog q50.f q50.args q50.r q50.fr := fact_of (n := 100000) (l := []) follows tab_ok trivial (by kernel_rfl)
def q51 : Fact := ⟨102, [(.list (.ints .i64 [9, 0, 2, 1]))], (.row 0 0), (some ⟨3, 1, (.ints .i64 [9, 0, 2, 1])⟩)⟩
theorem q51_ok : Pure Try.prog q51.f q51.args q51.r q51.fr := fact_of (n := 100000) (l := []) follows tab_ok trivial (by kernel_rfl)
def q52 : Fact := ⟨138, [(.int .i64 5)], (.bool false), none⟩
theorem q52_ok : Pure Try.prog q52.f q52.args q52.r q52.fr := fact_of (n := 100000) (l := []) follows tab_ok trivial (by kernel_rfl)
def q53 : Fact := ⟨133, [(.int .i64 5), (.int .i64 0)], (.bool false), none⟩
theorem q53_ok : Pure Try.prog q53.f q53.args q53.r q53.fr := fact_of (n := 100000) (l := [q52]) follows tab_ok ⟨q52_ok, trivial⟩ (by kernel_rfl)
def q54 : Fact := ⟨138, [(.int .i64 0)], (.bool false), none⟩
theorem q54_ok : Pure Try.prog q54.f q54.args q54.r q54.fr := fact_of (n := 100000) (l := []) follows tab_ok trivial (by kernel_rfl)
def q55 : Fact := ⟨133, [(.int .i64 0), (.int .i64 0)], (.bool false), none⟩
theorem q55_ok : Pure Try.prog q55.f q55.args q55.r q55.fr := fact_of (n := 100000) (l := [q54]) follows tab_ok ⟨q54_ok, trivial⟩ (by kernel_rfl)
def q56 : Fact := ⟨103, [(.list (.ints .i64 [0, 5, 9])), (.int .i64 0)], (.tup [(.int .i64 0), (.bool true)]), none⟩
theorem q56_ok : Pure Try.prog q56.f q56.args q56.r q56.fr := fact_of (n := 100000) (l := [q53, q55]) follows tab_ok ⟨q53_ok, ⟨q55_ok, trivial⟩⟩ (by kernel_rfl)
def q57 : Fact := ⟨102, [(.list (.ints .i64 [2, 9, 1, 1]))], (.row 0 0), (some ⟨3, 1, (.ints .i64 [2, 9, 1, 1])⟩)⟩
theorem q57_ok : Pure Try.prog q57.f q57.args q57.r q57.fr := fact_of (n := 100000) (l := []) follows tab_ok trivial (by kernel_rfl)
def q58 : Fact := ⟨133, [(.int .i64 5), (.int .i64 4)], (.bool false), none⟩
theorem q58_ok : Pure Try.prog q58.f q58.args q58.r q58.fr := fact_of (n := 100000) (l := [q52]) follows tab_ok ⟨q52_ok, trivial⟩ (by kernel_rfl)
def q59 : Fact := ⟨133, [(.int .i64 0), (.int .i64 4)], (.bool true), none⟩
theorem q59_ok : Pure Try.prog q59.f q59.args q59.r q59.fr := fact_of (n := 100000) (l := [q54]) follows tab_ok ⟨q54_ok, trivial⟩ (by kernel_rfl)
def q60 : Fact := ⟨134, [(.int .i64 5)], (.bool false), none⟩
theorem q60_ok : Pure Try.prog q60.f q60.args q60.r q60.fr := fact_of (n := 100000) (l := []) follows tab_ok trivial (by kernel_rfl)
def q61 : Fact := ⟨103, [(.list (.ints .i64 [0, 5, 9])), (.int .i64 4)], (.tup [(.int .i64 1), (.bool false)]), none⟩
theorem q61_ok : Pure Try.prog q61.f q61.args q61.r q61.fr := fact_of (n := 100000) (l := [q58, q59, q60]) follows tab_ok ⟨q58_ok, ⟨q59_ok, ⟨q60_ok, trivial⟩⟩⟩ (by kernel_rfl)
def q62 : Fact := ⟨102, [(.list (.ints .i64 [3, 255, 0, 0]))], (.row 0 0), (some ⟨3, 1, (.ints .i64 [3, 255, 0, 0])⟩)⟩
theorem q62_ok : Pure Try.prog q62.f q62.args q62.r q62.fr := fact_of (n := 100000) (l := []) follows tab_ok trivial (by kernel_rfl)
def q63 : Fact := ⟨133, [(.int .i64 5), (.int .i64 8)], (.bool true), none⟩
theorem q63_ok : Pure Try.prog q63.f q63.args q63.r q63.fr := fact_of (n := 100000) (l := [q52]) follows tab_ok ⟨q52_ok, trivial⟩ (by kernel_rfl)
def q64 : Fact := ⟨138, [(.int .i64 9)], (.bool false), none⟩
theorem q64_ok : Pure Try.prog q64.f q64.args q64.r q64.fr := fact_of (n := 100000) (l := []) follows tab_ok trivial (by kernel_rfl)
def q65 : Fact := ⟨133, [(.int .i64 9), (.int .i64 8)], (.bool false), none⟩
theorem q65_ok : Pure Try.prog q65.f q65.args q65.r q65.fr := fact_of (n := 100000) (l := [q64]) follows tab_ok ⟨q64_ok, trivial⟩ (by kernel_rfl)
def q66 : Fact := ⟨134, [(.int .i64 9)], (.bool false), none⟩
theorem q66_ok : Pure Try.prog q66.f q66.args q66.r q66.fr := fact_of (n := 100000) (l := []) follows tab_ok trivial (by kernel_rfl)
def q67 : Fact := ⟨103, [(.list (.ints .i64 [0, 5, 9])), (.int .i64 8)], (.tup [(.int .i64 2), (.bool false)]), none⟩
theorem q67_ok : Pure Try.prog q67.f q67.args q67.r q67.fr := fact_of (n := 100000) (l := [q63, q65, q66]) follows tab_ok ⟨q63_ok, ⟨q65_ok, ⟨q66_ok, trivial⟩⟩⟩ (by kernel_rfl)
def q68 : Fact := ⟨35, [(.agg (.gen [(.int .i64 4), (.int .i64 2)])), (.agg (.gen [(.int .i64 0), (.int .i64 0)])), (.list (.gen [(.agg (.gen [(.int .i64 9), (.int .i64 0), (.list (.ints .i64 [1, 2]))])), (.agg (.gen [(.int .i64 9), (.int .i64 1), (.list (.ints .i64 [3]))]))]))], (.tup [(.list (.gen [(.agg (.gen [(.int .i64 0), (.int .i64 0), (.int .i64 0), (.list (.ints .i64 [9, 0, 2, 1]))])), (.agg (.gen [(.int .i64 0), (.int .i64 1), (.int .i64 1), (.list (.ints .i64 [2, 9, 1, 1]))])), (.agg (.gen [(.int .i64 0), (.int .i64 2), (.int .i64 1), (.list (.ints .i64 [3, 255, 0, 0]))]))])), (.int .i64 0)]), none⟩
theorem q68_ok : Pure Try.prog q68.f q68.args q68.r q68.fr := fact_of (n := 100000) (l := [q33, q35, q4, q47, q20, q49, q50, q51, q56, q57, q61, q62, q67]) follows tab_ok ⟨q33_ok, ⟨q35_ok, ⟨q4_ok, ⟨q47_ok, ⟨q20_ok, ⟨q49_ok, ⟨q50_ok, ⟨q51_ok, ⟨q56_ok, ⟨q57_ok, ⟨q61_ok, ⟨q62_ok, ⟨q67_ok, trivial⟩⟩⟩⟩⟩⟩⟩⟩⟩⟩⟩⟩⟩ (by kernel_rfl)
def q69 : Fact := ⟨55, [(.list (.ints .i64 [9, 0, 2, 1]))], (.row 0 0), (some ⟨3, 1, (.ints .i64 [9, 0, 2, 1])⟩)⟩
theorem q69_ok : Pure Try.prog q69.f q69.args q69.r q69.fr := fact_of (n := 100000) (l := []) follows tab_ok trivial (by kernel_rfl)
def q70 : Fact := ⟨40, [(.agg (.gen [(.int .i64 0), (.int .i64 0), (.int .i64 0), (.list (.ints .i64 [9, 0, 2, 1]))]))], (.agg (.gen [(.int .i64 0), (.int .i64 0), (.int .i64 0), (.list (.ints .i64 [9, 0, 2, 1]))])), none⟩
theorem q70_ok : Pure Try.prog q70.f q70.args q70.r q70.fr := fact_of (n := 100000) (l := [q69]) follows tab_ok ⟨q69_ok, trivial⟩ (by kernel_rfl)
def q71 : Fact := ⟨55, [(.list (.ints .i64 [2, 9, 1, 1]))], (.row 0 0), (some ⟨3, 1, (.ints .i64 [2, 9, 1, 1])⟩)⟩
theorem q71_ok : Pure Try.prog q71.f q71.args q71.r q71.fr := fact_of (n := 100000) (l := []) follows tab_ok trivial (by kernel_rfl)
def q72 : Fact := ⟨40, [(.agg (.gen [(.int .i64 0), (.int .i64 1), (.int .i64 1), (.list (.ints .i64 [2, 9, 1, 1]))]))], (.agg (.gen [(.int .i64 0), (.int .i64 1), (.int .i64 1), (.list (.ints .i64 [2, 9, 1, 1]))])), none⟩
theorem q72_ok : Pure Try.prog q72.f q72.args q72.r q72.fr := fact_of (n := 100000) (l := [q71]) follows tab_ok ⟨q71_ok, trivial⟩ (by kernel_rfl)
def q73 : Fact := ⟨55, [(.list (.ints .i64 [3, 255, 0, 0]))], (.row 0 0), (some ⟨3, 1, (.ints .i64 [3, 255, 0, 0])⟩)⟩
theorem q73_ok : Pure Try.prog q73.f q73.args q73.r q73.fr := fact_of (n := 100000) (l := []) follows tab_ok trivial (by kernel_rfl)
def q74 : Fact := ⟨40, [(.agg (.gen [(.int .i64 0), (.int .i64 2), (.int .i64 1), (.list (.ints .i64 [3, 255, 0, 0]))]))], (.agg (.gen [(.int .i64 0), (.int .i64 2), (.int .i64 1), (.list (.ints .i64 [3, 255, 0, 0]))])), none⟩
theorem q74_ok : Pure Try.prog q74.f q74.args q74.r q74.fr := fact_of (n := 100000) (l := [q73]) follows tab_ok ⟨q73_ok, trivial⟩ (by kernel_rfl)
def q75 : Fact := ⟨17, [(.list (.gen [(.agg (.gen [(.int .i64 0), (.int .i64 0), (.int .i64 0), (.list (.ints .i64 [9, 0, 2, 1]))])), (.agg (.gen [(.int .i64 0), (.int .i64 1), (.int .i64 1), (.list (.ints .i64 [2, 9, 1, 1]))])), (.agg (.gen [(.int .i64 0), (.int .i64 2), (.int .i64 1), (.list (.ints .i64 [3, 255, 0, 0]))]))]))], (.row 0 0), (some ⟨74, 4, (.big (.agg [(.int .i64), (.int .i64), (.int .i64), (.ints .i64)]) [(.agg (.gen [(.int .i64 0), (.int .i64 0), (.int .i64 0), (.list (.ints .i64 [9, 0, 2, 1]))])), (.agg (.gen [(.int .i64 0), (.int .i64 1), (.int .i64 1), (.list (.ints .i64 [2, 9, 1, 1]))])), (.agg (.gen [(.int .i64 0), (.int .i64 2), (.int .i64 1), (.list (.ints .i64 [3, 255, 0, 0]))]))])⟩)⟩
theorem q75_ok : Pure Try.prog q75.f q75.args q75.r q75.fr := fact_of (n := 100000) (l := [q70, q72, q74]) follows tab_ok ⟨q70_ok, ⟨q72_ok, ⟨q74_ok, trivial⟩⟩⟩ (by kernel_rfl)
def q76 : Fact := ⟨87, [(.int .i64 0), (.int .i64 0), (.int .i64 3)], (.bool true), none⟩
theorem q76_ok : Pure Try.prog q76.f q76.args q76.r q76.fr := fact_of (n := 100000) (l := []) follows tab_ok trivial (by kernel_rfl)
def q77 : Fact := ⟨128, [(.int .i64 9)], (.int .i64 0), none⟩
theorem q77_ok : Pure Try.prog q77.f q77.args q77.r q77.fr := fact_of (n := 100000) (l := []) follows tab_ok trivial (by kernel_rfl)
def q78 : Fact := ⟨127, [(.list (.ints .i64 [9, 0, 2, 1])), (.fn 128 [])], (.int .i64 0), none⟩
theorem q78_ok : Pure Try.prog q78.f q78.args q78.r q78.fr := fact_of (n := 100000) (l := [q77, q11, q38, q5]) follows tab_ok ⟨q77_ok, ⟨q11_ok, ⟨q38_ok, ⟨q5_ok, trivial⟩⟩⟩⟩ (by kernel_rfl)
def q79 : Fact := ⟨94, [(.list (.ints .i64 [9, 0, 2, 1]))], (.int .i64 0), none⟩
theorem q79_ok : Pure Try.prog q79.f q79.args q79.r q79.fr := fact_of (n := 100000) (l := [q78]) follows tab_ok ⟨q78_ok, trivial⟩ (by kernel_rfl)
def q80 : Fact := ⟨84, [(.list (.ints .i64 [0, 0, 0, 0]))], (.int .i64 0), none⟩
theorem q80_ok : Pure Try.prog q80.f q80.args q80.r q80.fr := fact_of (n := 100000) (l := []) follows tab_ok trivial (by kernel_rfl)
def q81 : Fact := ⟨110, [(.agg (.gen [(.int .i64 4), (.int .i64 2)])), (.agg (.gen [(.int .i64 0), (.int .i64 0), (.int .i64 0), (.list (.ints .i64 [9, 0, 2, 1]))]))], (.int .i64 0), none⟩
theorem q81_ok : Pure Try.prog q81.f q81.args q81.r q81.fr := fact_of (n := 100000) (l := [q31, q35, q76, q4, q0, q79, q80]) follows tab_ok ⟨q31_ok, ⟨q35_ok, ⟨q76_ok, ⟨q4_ok, ⟨q0_ok, ⟨q79_ok, ⟨q80_ok, trivial⟩⟩⟩⟩⟩⟩⟩ (by kernel_rfl)
def q82 : Fact := ⟨87, [(.int .i64 1), (.int .i64 0), (.int .i64 63)], (.bool true), none⟩
theorem q82_ok : Pure Try.prog q82.f q82.args q82.r q82.fr := fact_of (n := 100000) (l := []) follows tab_ok trivial (by kernel_rfl)
def q83 : Fact := ⟨100, [(.int .i64 1)], (.bool true), none⟩
theorem q83_ok : Pure Try.prog q83.f q83.args q83.r q83.fr := fact_of (n := 100000) (l := [q82]) follows tab_ok ⟨q82_ok, trivial⟩ (by kernel_rfl)
def q84 : Fact := ⟨87, [(.int .i64 1), (.int .i64 0), (.int .i64 3)], (.bool true), none⟩
theorem q84_ok : Pure Try.prog q84.f q84.args q84.r q84.fr := fact_of (n := 100000) (l := []) follows tab_ok trivial (by kernel_rfl)
def q85 : Fact := ⟨127, [(.list (.ints .i64 [2, 9, 1, 1])), (.fn 128 [])], (.int .i64 0), none⟩
theorem q85_ok : Pure Try.prog q85.f q85.args q85.r q85.fr := fact_of (n := 100000) (l := [q38, q77, q5]) follows tab_ok ⟨q38_ok, ⟨q77_ok, ⟨q5_ok, trivial⟩⟩⟩ (by kernel_rfl)
def q86 : Fact := ⟨94, [(.list (.ints .i64 [2, 9, 1, 1]))], (.int .i64 0), none⟩
theorem q86_ok : Pure Try.prog q86.f q86.args q86.r q86.fr := fact_of (n := 100000) (l := [q85]) follows tab_ok ⟨q85_ok, trivial⟩ (by kernel_rfl)
def q87 : Fact := ⟨110, [(.agg (.gen [(.int .i64 4), (.int .i64 2)])), (.agg (.gen [(.int .i64 0), (.int .i64 1), (.int .i64 1), (.list (.ints .i64 [2, 9, 1, 1]))]))], (.int .i64 0), none⟩
theorem q87_ok : Pure Try.prog q87.f q87.args q87.r q87.fr := fact_of (n := 100000) (l := [q31, q83, q84, q4, q0, q86, q80]) follows tab_ok ⟨q31_ok, ⟨q83_ok, ⟨q84_ok, ⟨q4_ok, ⟨q0_ok, ⟨q86_ok, ⟨q80_ok, trivial⟩⟩⟩⟩⟩⟩⟩ (by kernel_rfl)
def q88 : Fact := ⟨87, [(.int .i64 2), (.int .i64 0), (.int .i64 63)], (.bool true), none⟩
theorem q88_ok : Pure Try.prog q88.f q88.args q88.r q88.fr := fact_of (n := 100000) (l := []) follows tab_ok trivial (by kernel_rfl)
def q89 : Fact := ⟨100, [(.int .i64 2)], (.bool true), none⟩
theorem q89_ok : Pure Try.prog q89.f q89.args q89.r q89.fr := fact_of (n := 100000) (l := [q88]) follows tab_ok ⟨q88_ok, trivial⟩ (by kernel_rfl)
def q90 : Fact := ⟨127, [(.list (.ints .i64 [3, 255, 0, 0])), (.fn 128 [])], (.int .i64 0), none⟩
theorem q90_ok : Pure Try.prog q90.f q90.args q90.r q90.fr := fact_of (n := 100000) (l := [q42, q17, q11]) follows tab_ok ⟨q42_ok, ⟨q17_ok, ⟨q11_ok, trivial⟩⟩⟩ (by kernel_rfl)
def q91 : Fact := ⟨94, [(.list (.ints .i64 [3, 255, 0, 0]))], (.int .i64 0), none⟩
theorem q91_ok : Pure Try.prog q91.f q91.args q91.r q91.fr := fact_of (n := 100000) (l := [q90]) follows tab_ok ⟨q90_ok, trivial⟩ (by kernel_rfl)
def q92 : Fact := ⟨110, [(.agg (.gen [(.int .i64 4), (.int .i64 2)])), (.agg (.gen [(.int .i64 0), (.int .i64 2), (.int .i64 1), (.list (.ints .i64 [3, 255, 0, 0]))]))], (.int .i64 0), none⟩
theorem q92_ok : Pure Try.prog q92.f q92.args q92.r q92.fr := fact_of (n := 100000) (l := [q31, q89, q84, q4, q0, q91, q80]) follows tab_ok ⟨q31_ok, ⟨q89_ok, ⟨q84_ok, ⟨q4_ok, ⟨q0_ok, ⟨q91_ok, ⟨q80_ok, trivial⟩⟩⟩⟩⟩⟩⟩ (by kernel_rfl)
def q93 : Fact := ⟨117, [(.list (.big (.agg [(.int .i64), (.int .i64), (.int .i64), (.ints .i64)]) [(.agg (.gen [(.int .i64 0), (.int .i64 0), (.int .i64 0), (.list (.ints .i64 [9, 0, 2, 1]))])), (.agg (.gen [(.int .i64 0), (.int .i64 1), (.int .i64 1), (.list (.ints .i64 [2, 9, 1, 1]))])), (.agg (.gen [(.int .i64 0), (.int .i64 2), (.int .i64 1), (.list (.ints .i64 [3, 255, 0, 0]))]))])), (.val (.func (.func 110) ⟨[(.agg ⟨[(.int .i64 4), (.int .i64 2)]⟩)]⟩ ⟨[]⟩))], (.int .i64 0), none⟩
theorem q93_ok : Pure Try.prog q93.f q93.args q93.r q93.fr := fact_of (n := 100000) (l := [q81, q87, q92]) follows tab_ok ⟨q81_ok, ⟨q87_ok, ⟨q92_ok, trivial⟩⟩⟩ (by kernel_rfl)
def q94 : Fact := ⟨78, [(.agg (.gen [(.int .i64 4), (.int .i64 2)])), (.int .i64 0), (.list (.big (.agg [(.int .i64), (.int .i64), (.int .i64), (.ints .i64)]) [(.agg (.gen [(.int .i64 0), (.int .i64 0), (.int .i64 0), (.list (.ints .i64 [9, 0, 2, 1]))])), (.agg (.gen [(.int .i64 0), (.int .i64 1), (.int .i64 1), (.list (.ints .i64 [2, 9, 1, 1]))])), (.agg (.gen [(.int .i64 0), (.int .i64 2), (.int .i64 1), (.list (.ints .i64 [3, 255, 0, 0]))]))]))], (.tup [(.agg (.gen [(.int .i64 4), (.int .i64 2)])), (.int .i64 0)]), none⟩
theorem q94_ok : Pure Try.prog q94.f q94.args q94.r q94.fr := fact_of (n := 100000) (l := [q33, q1, q93, q20]) follows tab_ok ⟨q33_ok, ⟨q1_ok, ⟨q93_ok, ⟨q20_ok, trivial⟩⟩⟩⟩ (by kernel_rfl)
def q95 : Fact := ⟨120, [(.int .i64 65), (.int .i64 64)], (.int .i64 1), none⟩
theorem q95_ok : Pure Try.prog q95.f q95.args q95.r q95.fr := fact_of (n := 100000) (l := []) follows tab_ok trivial (by kernel_rfl)
def q96 : Fact := ⟨119, [(.agg (.gen [(.int .i64 0), (.int .i64 1), (.int .i64 1), (.list (.ints .i64 [2, 9, 1, 1])), (.int .i64 65)])), (.agg (.gen [(.int .i64 0), (.int .i64 0), (.int .i64 0), (.list (.ints .i64 [9, 0, 2, 1])), (.int .i64 64)]))], (.int .i64 1), none⟩
theorem q96_ok : Pure Try.prog q96.f q96.args q96.r q96.fr := fact_of (n := 100000) (l := [q95]) follows tab_ok ⟨q95_ok, trivial⟩ (by kernel_rfl)
def q97 : Fact := ⟨120, [(.int .i64 66), (.int .i64 65)], (.int .i64 1), none⟩
theorem q97_ok : Pure Try.prog q97.f q97.args q97.r q97.fr := fact_of (n := 100000) (l := []) follows tab_ok trivial (by kernel_rfl)
def q98 : Fact := ⟨119, [(.agg (.gen [(.int .i64 0), (.int .i64 2), (.int .i64 1), (.list (.ints .i64 [3, 255, 0, 0])), (.int .i64 66)])), (.agg (.gen [(.int .i64 0), (.int .i64 1), (.int .i64 1), (.list (.ints .i64 [2, 9, 1, 1])), (.int .i64 65)]))], (.int .i64 1), none⟩
theorem q98_ok : Pure Try.prog q98.f q98.args q98.r q98.fr := fact_of (n := 100000) (l := [q97]) follows tab_ok ⟨q97_ok, trivial⟩ (by kernel_rfl)
def q99 : Fact := ⟨139, [(.list (.big (.agg [(.int .i64), (.int .i64), (.int .i64), (.ints .i64), (.int .i64)]) [(.agg (.gen [(.int .i64 0), (.int .i64 0), (.int .i64 0), (.list (.ints .i64 [9, 0, 2, 1])), (.int .i64 64)])), (.agg (.gen [(.int .i64 0), (.int .i64 1), (.int .i64 1), (.list (.ints .i64 [2, 9, 1, 1])), (.int .i64 65)])), (.agg (.gen [(.int .i64 0), (.int .i64 2), (.int .i64 1), (.list (.ints .i64 [3, 255, 0, 0])), (.int .i64 66)]))])), (.int .i64 0), (.int .i64 3), (.fn 119 [])], (.tup []), none⟩
theorem q99_ok : Pure Try.prog q99.f q99.args q99.r q99.fr := fact_of (n := 100000) (l := [q96, q98]) follows tab_ok ⟨q96_ok, ⟨q98_ok, trivial⟩⟩ (by kernel_rfl)
def q100 : Fact := ⟨137, [(.list (.big (.agg [(.int .i64), (.int .i64), (.int .i64), (.ints .i64), (.int .i64)]) [(.agg (.gen [(.int .i64 0), (.int .i64 0), (.int .i64 0), (.list (.ints .i64 [9, 0, 2, 1])), (.int .i64 64)])), (.agg (.gen [(.int .i64 0), (.int .i64 1), (.int .i64 1), (.list (.ints .i64 [2, 9, 1, 1])), (.int .i64 65)])), (.agg (.gen [(.int .i64 0), (.int .i64 2), (.int .i64 1), (.list (.ints .i64 [3, 255, 0, 0])), (.int .i64 66)]))])), (.int .i64 3), (.fn 119 [])], (.tup []), none⟩
theorem q100_ok : Pure Try.prog q100.f q100.args q100.r q100.fr := fact_of (n := 100000) (l := [q99]) follows tab_ok ⟨q99_ok, trivial⟩ (by kernel_rfl)
def q101 : Fact := ⟨118, [(.list (.big (.agg [(.int .i64), (.int .i64), (.int .i64), (.ints .i64), (.int .i64)]) [(.agg (.gen [(.int .i64 0), (.int .i64 0), (.int .i64 0), (.list (.ints .i64 [9, 0, 2, 1])), (.int .i64 64)])), (.agg (.gen [(.int .i64 0), (.int .i64 1), (.int .i64 1), (.list (.ints .i64 [2, 9, 1, 1])), (.int .i64 65)])), (.agg (.gen [(.int .i64 0), (.int .i64 2), (.int .i64 1), (.list (.ints .i64 [3, 255, 0, 0])), (.int .i64 66)]))])), (.fn 119 [])], (.tup []), none⟩
theorem q101_ok : Pure Try.prog q101.f q101.args q101.r q101.fr := fact_of (n := 100000) (l := [q100]) follows tab_ok ⟨q100_ok, trivial⟩ (by kernel_rfl)
def q102 : Fact := ⟨122, [(.agg (.gen [(.int .i64 0), (.int .i64 1), (.int .i64 1), (.list (.ints .i64 [2, 9, 1, 1])), (.int .i64 65)])), (.agg (.gen [(.int .i64 0), (.int .i64 0), (.int .i64 0), (.list (.ints .i64 [9, 0, 2, 1])), (.int .i64 64)]))], (.bool false), none⟩
theorem q102_ok : Pure Try.prog q102.f q102.args q102.r q102.fr := fact_of (n := 100000) (l := []) follows tab_ok trivial (by kernel_rfl)
def q103 : Fact := ⟨122, [(.agg (.gen [(.int .i64 0), (.int .i64 2), (.int .i64 1), (.list (.ints .i64 [3, 255, 0, 0])), (.int .i64 66)])), (.agg (.gen [(.int .i64 0), (.int .i64 1), (.int .i64 1), (.list (.ints .i64 [2, 9, 1, 1])), (.int .i64 65)]))], (.bool false), none⟩
theorem q103_ok : Pure Try.prog q103.f q103.args q103.r q103.fr := fact_of (n := 100000) (l := []) follows tab_ok trivial (by kernel_rfl)
def q104 : Fact := ⟨121, [(.list (.big (.agg [(.int .i64), (.int .i64), (.int .i64), (.ints .i64), (.int .i64)]) [(.agg (.gen [(.int .i64 0), (.int .i64 0), (.int .i64 0), (.list (.ints .i64 [9, 0, 2, 1])), (.int .i64 64)])), (.agg (.gen [(.int .i64 0), (.int .i64 1), (.int .i64 1), (.list (.ints .i64 [2, 9, 1, 1])), (.int .i64 65)])), (.agg (.gen [(.int .i64 0), (.int .i64 2), (.int .i64 1), (.list (.ints .i64 [3, 255, 0, 0])), (.int .i64 66)]))])), (.fn 122 [])], (.list (.big (.agg [(.int .i64), (.int .i64), (.int .i64), (.ints .i64), (.int .i64)]) [(.agg (.gen [(.int .i64 0), (.int .i64 0), (.int .i64 0), (.list (.ints .i64 [9, 0, 2, 1])), (.int .i64 64)])), (.agg (.gen [(.int .i64 0), (.int .i64 1), (.int .i64 1), (.list (.ints .i64 [2, 9, 1, 1])), (.int .i64 65)])), (.agg (.gen [(.int .i64 0), (.int .i64 2), (.int .i64 1), (.list (.ints .i64 [3, 255, 0, 0])), (.int .i64 66)]))])), none⟩
theorem q104_ok : Pure Try.prog q104.f q104.args q104.r q104.fr := fact_of (n := 100000) (l := [q102, q103]) follows tab_ok ⟨q102_ok, ⟨q103_ok, trivial⟩⟩ (by kernel_rfl)
def q105 : Fact := ⟨79, [(.int .i64 0), (.list (.big (.agg [(.int .i64), (.int .i64), (.int .i64), (.ints .i64)]) [(.agg (.gen [(.int .i64 0), (.int .i64 0), (.int .i64 0), (.list (.ints .i64 [9, 0, 2, 1]))])), (.agg (.gen [(.int .i64 0), (.int .i64 1), (.int .i64 1), (.list (.ints .i64 [2, 9, 1, 1]))])), (.agg (.gen [(.int .i64 0), (.int .i64 2), (.int .i64 1), (.list (.ints .i64 [3, 255, 0, 0]))]))]))], (.row 0 0), (some ⟨140, 5, (.big (.agg [(.int .i64), (.int .i64), (.int .i64), (.ints .i64), (.int .i64)]) [(.agg (.gen [(.int .i64 0), (.int .i64 0), (.int .i64 0), (.list (.ints .i64 [9, 0, 2, 1])), (.int .i64 64)])), (.agg (.gen [(.int .i64 0), (.int .i64 1), (.int .i64 1), (.list (.ints .i64 [2, 9, 1, 1])), (.int .i64 65)])), (.agg (.gen [(.int .i64 0), (.int .i64 2), (.int .i64 1), (.list (.ints .i64 [3, 255, 0, 0])), (.int .i64 66)]))])⟩)⟩
theorem q105_ok : Pure Try.prog q105.f q105.args q105.r q105.fr := fact_of (n := 100000) (l := [q101, q104, q102, q103]) follows tab_ok ⟨q101_ok, ⟨q104_ok, ⟨q102_ok, ⟨q103_ok, trivial⟩⟩⟩⟩ (by kernel_rfl)
def q106 : Fact := ⟨113, [(.list (.gen [.nils, (.list (.ints .i64 [9, 0, 2, 1]))]))], (.row 0 0), (some ⟨3, 1, (.ints .i64 [9, 0, 2, 1])⟩)⟩
theorem q106_ok : Pure Try.prog q106.f q106.args q106.r q106.fr := fact_of (n := 100000) (l := []) follows tab_ok trivial (by kernel_rfl)
def q107 : Fact := ⟨113, [(.list (.big (.ints .i64) [(.list (.ints .i64 [9, 0, 2, 1])), (.list (.ints .i64 [2, 9, 1, 1]))]))], (.row 0 0), (some ⟨3, 1, (.ints .i64 [9, 0, 2, 1, 2, 9, 1, 1])⟩)⟩
theorem q107_ok : Pure Try.prog q107.f q107.args q107.r q107.fr := fact_of (n := 100000) (l := []) follows tab_ok trivial (by kernel_rfl)
def q108 : Fact := ⟨123, [(.eptr (.agg (.gen [(.bool true), (.list (.ints .i64 [9, 0, 2, 1])), .nils])) 0), (.agg (.gen [(.int .i64 0), (.int .i64 1), (.int .i64 1), (.list (.ints .i64 [2, 9, 1, 1]))]))], (.int .i64 1), none⟩
theorem q108_ok : Pure Try.prog q108.f q108.args q108.r q108.fr := fact_of (n := 100000) (l := [q107]) follows tab_ok ⟨q107_ok, trivial⟩ (by kernel_rfl)
def q109 : Fact := ⟨113, [(.list (.gen [(.list (.ints .i64 [9, 0, 2, 1])), (.list (.ints .i64 [2, 9, 1, 1]))]))], (.row 0 0), (some ⟨3, 1, (.ints .i64 [9, 0, 2, 1, 2, 9, 1, 1])⟩)⟩
theorem q109_ok : Pure Try.prog q109.f q109.args q109.r q109.fr := fact_of (n := 100000) (l := []) follows tab_ok trivial (by kernel_rfl)
def q110 : Fact := ⟨102, [(.list (.ints .i64 [1, 2]))], (.row 0 0), (some ⟨3, 1, (.ints .i64 [1, 2])⟩)⟩
theorem q110_ok : Pure Try.prog q110.f q110.args q110.r q110.fr := fact_of (n := 100000) (l := []) follows tab_ok trivial (by kernel_rfl)
def q111 : Fact := ⟨113, [(.list (.big (.ints .i64) [(.list (.ints .i64 [9, 1, 1])), (.list (.ints .i64 [3, 255, 0, 0]))]))], (.row 0 0), (some ⟨3, 1, (.ints .i64 [9, 1, 1, 3, 255, 0, 0])⟩)⟩
theorem q111_ok : Pure Try.prog q111.f q111.args q111.r q111.fr := fact_of (n := 100000) (l := []) follows tab_ok trivial (by kernel_rfl)
def q112 : Fact := ⟨123, [(.eptr (.agg (.gen [(.bool true), (.list (.ints .i64 [9, 1, 1])), (.list (.gen [(.agg (.gen [(.int .i64 9), (.int .i64 0), (.list (.ints .i64 [1, 2]))]))]))])) 0), (.agg (.gen [(.int .i64 0), (.int .i64 2), (.int .i64 1), (.list (.ints .i64 [3, 255, 0, 0]))]))], (.int .i64 1), none⟩
theorem q112_ok : Pure Try.prog q112.f q112.args q112.r q112.fr := fact_of (n := 100000) (l := [q111]) follows tab_ok ⟨q111_ok, trivial⟩ (by kernel_rfl)
def q113 : Fact := ⟨113, [(.list (.gen [(.list (.ints .i64 [9, 1, 1])), (.list (.ints .i64 [3, 255, 0, 0]))]))], (.row 0 0), (some ⟨3, 1, (.ints .i64 [9, 1, 1, 3, 255, 0, 0])⟩)⟩
theorem q113_ok : Pure Try.prog q113.f q113.args q113.r q113.fr := fact_of (n := 100000) (l := []) follows tab_ok trivial (by kernel_rfl)
def q114 : Fact := ⟨102, [(.list (.ints .i64 [3]))], (.row 0 0), (some ⟨3, 1, (.ints .i64 [3])⟩)⟩
theorem q114_ok : Pure Try.prog q114.f q114.args q114.r q114.fr := fact_of (n := 100000) (l := []) follows tab_ok trivial (by kernel_rfl)
def q115 : Fact := ⟨102, [(.list (.ints .i64 []))], (.list (.ints .i64 [])), (some ⟨0, 0, (.gen [])⟩)⟩
theorem q115_ok : Pure Try.prog q115.f q115.args q115.r q115.fr := clone_ok [] (by decide)
def q116 : Fact := ⟨16, [(.agg (.gen [(.int .i64 4), (.int .i64 2)])), (.int .i64 0), (.list (.big (.agg [(.int .i64), (.int .i64), (.int .i64), (.ints .i64)]) [(.agg (.gen [(.int .i64 0), (.int .i64 0), (.int .i64 0), (.list (.ints .i64 [9, 0, 2, 1]))])), (.agg (.gen [(.int .i64 0), (.int .i64 1), (.int .i64 1), (.list (.ints .i64 [2, 9, 1, 1]))])), (.agg (.gen [(.int .i64 0), (.int .i64 2), (.int .i64 1), (.list (.ints .i64 [3, 255, 0, 0]))]))]))], (.tup [(.list (.gen [(.agg (.gen [(.int .i64 9), (.int .i64 0), (.list (.ints .i64 [1, 2]))])), (.agg (.gen [(.int .i64 9), (.int .i64 1), (.list (.ints .i64 [3]))]))])), (.int .i64 0)]), none⟩
theorem q116_ok : Pure Try.prog q116.f q116.args q116.r q116.fr := fact_of (n := 100000) (l := [q94, q105, q106, q108, q109, q110, q112, q113, q114, q115]) follows tab_ok ⟨q94_ok, ⟨q105_ok, ⟨q106_ok, ⟨q108_ok, ⟨q109_ok, ⟨q110_ok, ⟨q112_ok, ⟨q113_ok, ⟨q114_ok, ⟨q115_ok, trivial⟩⟩⟩⟩⟩⟩⟩⟩⟩⟩ (by kernel_rfl)
def q122 : Fact := ⟨77, [], (.row 0 0), (some ⟨49, 3, (.big (.agg [(.int .i64), (.int .i64), (.int .i64)]) [(.agg (.gen [(.int .i64 0), (.int .i64 10), (.int .i64 12)])), (.agg (.gen [(.int .i64 10), (.int .i64 30), (.int .i64 32)])), (.agg (.gen [(.int .i64 20), (.int .i64 50), (.int .i64 51)]))])⟩)⟩
theorem q122_ok : Pure Try.prog q122.f q122.args q122.r q122.fr := fact_of (n := 100000) (l := []) follows tab_ok trivial (by kernel_rfl)
def q123 : Fact := ⟨87, [(.int .i64 0), (.int .i64 0), (.int .i64 1000000)], (.bool true), none⟩
theorem q123_ok : Pure Try.prog q123.f q123.args q123.r q123.fr := fact_of (n := 100000) (l := []) follows tab_ok trivial (by kernel_rfl)
def q124 : Fact := ⟨87, [(.int .i64 10), (.int .i64 0), (.int .i64 1000000000000)], (.bool true), none⟩
theorem q124_ok : Pure Try.prog q124.f q124.args q124.r q124.fr := fact_of (n := 100000) (l := []) follows tab_ok trivial (by kernel_rfl)
def q125 : Fact := ⟨105, [(.int .i64 10)], (.bool true), none⟩
theorem q125_ok : Pure Try.prog q125.f q125.args q125.r q125.fr := fact_of (n := 100000) (l := [q124]) follows tab_ok ⟨q124_ok, trivial⟩ (by kernel_rfl)
def q126 : Fact := ⟨87, [(.int .i64 12), (.int .i64 0), (.int .i64 1000000000000)], (.bool true), none⟩
theorem q126_ok : Pure Try.prog q126.f q126.args q126.r q126.fr := fact_of (n := 100000) (l := []) follows tab_ok trivial (by kernel_rfl)
def q127 : Fact := ⟨105, [(.int .i64 12)], (.bool true), none⟩
theorem q127_ok : Pure Try.prog q127.f q127.args q127.r q127.fr := fact_of (n := 100000) (l := [q126]) follows tab_ok ⟨q126_ok, trivial⟩ (by kernel_rfl)
def q128 : Fact := ⟨86, [(.bool true), (.int .i64 9)], (.int .i64 0), none⟩
theorem q128_ok : Pure Try.prog q128.f q128.args q128.r q128.fr := fact_of (n := 100000) (l := []) follows tab_ok trivial (by kernel_rfl)
def q129 : Fact := ⟨87, [(.int .i64 10), (.int .i64 0), (.int .i64 1000000)], (.bool true), none⟩
theorem q129_ok : Pure Try.prog q129.f q129.args q129.r q129.fr := fact_of (n := 100000) (l := []) follows tab_ok trivial (by kernel_rfl)
def q130 : Fact := ⟨87, [(.int .i64 30), (.int .i64 0), (.int .i64 1000000000000)], (.bool true), none⟩
theorem q130_ok : Pure Try.prog q130.f q130.args q130.r q130.fr := fact_of (n := 100000) (l := []) follows tab_ok trivial (by kernel_rfl)
def q131 : Fact := ⟨105, [(.int .i64 30)], (.bool true), none⟩
theorem q131_ok : Pure Try.prog q131.f q131.args q131.r q131.fr := fact_of (n := 100000) (l := [q130]) follows tab_ok ⟨q130_ok, trivial⟩ (by kernel_rfl)
def q132 : Fact := ⟨87, [(.int .i64 32), (.int .i64 0), (.int .i64 1000000000000)], (.bool true), none⟩
theorem q132_ok : Pure Try.prog q132.f q132.args q132.r q132.fr := fact_of (n := 100000) (l := []) follows tab_ok trivial (by kernel_rfl)
def q133 : Fact := ⟨105, [(.int .i64 32)], (.bool true), none⟩
theorem q133_ok : Pure Try.prog q133.f q133.args q133.r q133.fr := fact_of (n := 100000) (l := [q132]) follows tab_ok ⟨q132_ok, trivial⟩ (by kernel_rfl)
def q134 : Fact := ⟨87, [(.int .i64 20), (.int .i64 0), (.int .i64 1000000)], (.bool true), none⟩
theorem q134_ok : Pure Try.prog q134.f q134.args q134.r q134.fr := fact_of (n := 100000) (l := []) follows tab_ok trivial (by kernel_rfl)
def q135 : Fact := ⟨87, [(.int .i64 50), (.int .i64 0), (.int .i64 1000000000000)], (.bool true), none⟩
theorem q135_ok : Pure Try.prog q135.f q135.args q135.r q135.fr := fact_of (n := 100000) (l := []) follows tab_ok trivial (by kernel_rfl)
def q136 : Fact := ⟨105, [(.int .i64 50)], (.bool true), none⟩
theorem q136_ok : Pure Try.prog q136.f q136.args q136.r q136.fr := fact_of (n := 100000) (l := [q135]) follows tab_ok ⟨q135_ok, trivial⟩ (by kernel_rfl)
def q137 : Fact := ⟨87, [(.int .i64 51), (.int .i64 0), (.int .i64 1000000000000)], (.bool true), none⟩
theorem q137_ok : Pure Try.prog q137.f q137.args q137.r q137.fr := fact_of (n := 100000) (l := []) follows tab_ok trivial (by kernel_rfl)
def q138 : Fact := ⟨105, [(.int .i64 51)], (.bool true), none⟩
theorem q138_ok : Pure Try.prog q138.f q138.args q138.r q138.fr := fact_of (n := 100000) (l := [q137]) follows tab_ok ⟨q137_ok, trivial⟩ (by kernel_rfl)
def q139 : Fact := ⟨41, [(.list (.big (.agg [(.int .i64), (.int .i64), (.int .i64)]) [(.agg (.gen [(.int .i64 0), (.int .i64 10), (.int .i64 12)])), (.agg (.gen [(.int .i64 10), (.int .i64 30), (.int .i64 32)])), (.agg (.gen [(.int .i64 20), (.int .i64 50), (.int .i64 51)]))]))], (.tup [(.int .i64 0), (.int .i64 0)]), none⟩
theorem q139_ok : Pure Try.prog q139.f q139.args q139.r q139.fr := fact_of (n := 100000) (l := [q0, q1, q32, q123, q125, q127, q4, q128, q129, q131, q133, q134, q136, q138]) follows tab_ok ⟨q0_ok, ⟨q1_ok, ⟨q32_ok, ⟨q123_ok, ⟨q125_ok, ⟨q127_ok, ⟨q4_ok, ⟨q128_ok, ⟨q129_ok, ⟨q131_ok, ⟨q133_ok, ⟨q134_ok, ⟨q136_ok, ⟨q138_ok, trivial⟩⟩⟩⟩⟩⟩⟩⟩⟩⟩⟩⟩⟩⟩ (by kernel_rfl)
def q140 : Fact := ⟨114, [(.int .i64 18), (.int .i64 10)], (.agg (.gen [(.int .i64 9), (.int .i64 5)])), none⟩
theorem q140_ok : Pure Try.prog q140.f q140.args q140.r q140.fr := fact_of (n := 100000) (l := []) follows tab_ok trivial (by kernel_rfl)
def q141 : Fact := ⟨114, [(.int .i64 22), (.int .i64 10)], (.agg (.gen [(.int .i64 11), (.int .i64 5)])), none⟩
theorem q141_ok : Pure Try.prog q141.f q141.args q141.r q141.fr := fact_of (n := 100000) (l := []) follows tab_ok trivial (by kernel_rfl)
def q142 : Fact := ⟨114, [(.int .i64 38), (.int .i64 20)], (.agg (.gen [(.int .i64 19), (.int .i64 10)])), none⟩
theorem q142_ok : Pure Try.prog q142.f q142.args q142.r q142.fr := fact_of (n := 100000) (l := []) follows tab_ok trivial (by kernel_rfl)
def q143 : Fact := ⟨114, [(.int .i64 41), (.int .i64 20)], (.agg (.gen [(.int .i64 41), (.int .i64 20)])), none⟩
theorem q143_ok : Pure Try.prog q143.f q143.args q143.r q143.fr := fact_of (n := 100000) (l := []) follows tab_ok trivial (by kernel_rfl)
def q144 : Fact := ⟨135, [(.agg (.gen [(.int .i64 9), (.int .i64 5)])), (.agg (.gen [(.int .i64 19), (.int .i64 10)]))], (.bool true), none⟩
theorem q144_ok : Pure Try.prog q144.f q144.args q144.r q144.fr := fact_of (n := 100000) (l := []) follows tab_ok trivial (by kernel_rfl)
def q145 : Fact := ⟨135, [(.agg (.gen [(.int .i64 41), (.int .i64 20)])), (.agg (.gen [(.int .i64 11), (.int .i64 5)]))], (.bool true), none⟩
theorem q145_ok : Pure Try.prog q145.f q145.args q145.r q145.fr := fact_of (n := 100000) (l := []) follows tab_ok trivial (by kernel_rfl)
def q146 : Fact := ⟨114, [(.int .i64 21), (.int .i64 10)], (.agg (.gen [(.int .i64 21), (.int .i64 10)])), none⟩
theorem q146_ok : Pure Try.prog q146.f q146.args q146.r q146.fr := fact_of (n := 100000) (l := []) follows tab_ok trivial (by kernel_rfl)
def q147 : Fact := ⟨135, [(.agg (.gen [(.int .i64 19), (.int .i64 10)])), (.agg (.gen [(.int .i64 9), (.int .i64 5)]))], (.bool false), none⟩
theorem q147_ok : Pure Try.prog q147.f q147.args q147.r q147.fr := fact_of (n := 100000) (l := []) follows tab_ok trivial (by kernel_rfl)
def q148 : Fact := ⟨135, [(.agg (.gen [(.int .i64 21), (.int .i64 10)])), (.agg (.gen [(.int .i64 41), (.int .i64 20)]))], (.bool false), none⟩
theorem q148_ok : Pure Try.prog q148.f q148.args q148.r q148.fr := fact_of (n := 100000) (l := []) follows tab_ok trivial (by kernel_rfl)
def q149 : Fact := ⟨106, [(.list (.big (.agg [(.int .i64), (.int .i64), (.int .i64)]) [(.agg (.gen [(.int .i64 0), (.int .i64 10), (.int .i64 12)])), (.agg (.gen [(.int .i64 10), (.int .i64 30), (.int .i64 32)])), (.agg (.gen [(.int .i64 20), (.int .i64 50), (.int .i64 51)]))]))], (.agg (.gen [(.int .i64 19), (.int .i64 10), (.int .i64 41), (.int .i64 20)])), none⟩
theorem q149_ok : Pure Try.prog q149.f q149.args q149.r q149.fr := fact_of (n := 100000) (l := [q140, q141, q142, q143, q144, q145, q146, q147, q148]) follows tab_ok ⟨q140_ok, ⟨q141_ok, ⟨q142_ok, ⟨q143_ok, ⟨q144_ok, ⟨q145_ok, ⟨q146_ok, ⟨q147_ok, ⟨q148_ok, trivial⟩⟩⟩⟩⟩⟩⟩⟩⟩ (by kernel_rfl)
def q150 : Fact := ⟨135, [(.agg (.gen [(.int .i64 41), (.int .i64 20)])), (.agg (.gen [(.int .i64 19), (.int .i64 10)]))], (.bool false), none⟩
theorem q150_ok : Pure Try.prog q150.f q150.args q150.r q150.fr := fact_of (n := 100000) (l := []) follows tab_ok trivial (by kernel_rfl)
def q151 : Fact := ⟨107, [(.list (.big (.agg [(.int .i64), (.int .i64), (.int .i64)]) [(.agg (.gen [(.int .i64 0), (.int .i64 10), (.int .i64 12)])), (.agg (.gen [(.int .i64 10), (.int .i64 30), (.int .i64 32)])), (.agg (.gen [(.int .i64 20), (.int .i64 50), (.int .i64 51)]))]))], (.bool true), none⟩
theorem q151_ok : Pure Try.prog q151.f q151.args q151.r q151.fr := fact_of (n := 100000) (l := [q149, q150]) follows tab_ok ⟨q149_ok, ⟨q150_ok, trivial⟩⟩ (by kernel_rfl)
def q152 : Fact := ⟨86, [(.bool true), (.int .i64 13)], (.int .i64 0), none⟩
theorem q152_ok : Pure Try.prog q152.f q152.args q152.r q152.fr := fact_of (n := 100000) (l := []) follows tab_ok trivial (by kernel_rfl)
def q153 : Fact := ⟨85, [(.list (.big (.agg [(.int .i64), (.int .i64), (.int .i64)]) [(.agg (.gen [(.int .i64 0), (.int .i64 10), (.int .i64 12)])), (.agg (.gen [(.int .i64 10), (.int .i64 30), (.int .i64 32)])), (.agg (.gen [(.int .i64 20), (.int .i64 50), (.int .i64 51)]))]))], (.int .i64 0), none⟩
theorem q153_ok : Pure Try.prog q153.f q153.args q153.r q153.fr := fact_of (n := 100000) (l := [q139, q0, q151, q152, q32]) follows tab_ok ⟨q139_ok, ⟨q0_ok, ⟨q151_ok, ⟨q152_ok, ⟨q32_ok, trivial⟩⟩⟩⟩⟩ (by kernel_rfl)
def q154 : Fact := ⟨87, [(.int .i64 19), (.int .i64 (-1000000000)), (.int .i64 1000000000)], (.bool true), none⟩
theorem q154_ok : Pure Try.prog q154.f q154.args q154.r q154.fr := fact_of (n := 100000) (l := []) follows tab_ok trivial (by kernel_rfl)
def q155 : Fact := ⟨87, [(.int .i64 41), (.int .i64 (-1000000000)), (.int .i64 1000000000)], (.bool true), none⟩
theorem q155_ok : Pure Try.prog q155.f q155.args q155.r q155.fr := fact_of (n := 100000) (l := []) follows tab_ok trivial (by kernel_rfl)
def q156 : Fact := ⟨42, [(.list (.big (.agg [(.int .i64), (.int .i64), (.int .i64)]) [(.agg (.gen [(.int .i64 0), (.int .i64 10), (.int .i64 12)])), (.agg (.gen [(.int .i64 10), (.int .i64 30), (.int .i64 32)])), (.agg (.gen [(.int .i64 20), (.int .i64 50), (.int .i64 51)]))]))], (.tup [(.agg (.gen [(.int .i64 19), (.int .i64 10), (.int .i64 41), (.int .i64 20)])), (.int .i64 0)]), none⟩
theorem q156_ok : Pure Try.prog q156.f q156.args q156.r q156.fr := fact_of (n := 100000) (l := [q153, q149, q154, q155]) follows tab_ok ⟨q153_ok, ⟨q149_ok, ⟨q154_ok, ⟨q155_ok, trivial⟩⟩⟩⟩ (by kernel_rfl)
def q157 : Fact := ⟨87, [(.int .i64 30), (.int .i64 0), (.int .i64 1000000)], (.bool true), none⟩
theorem q157_ok : Pure Try.prog q157.f q157.args q157.r q157.fr := fact_of (n := 100000) (l := []) follows tab_ok trivial (by kernel_rfl)
def q158 : Fact := ⟨91, [(.agg (.gen [(.int .i64 0), (.int .i64 10), (.int .i64 10), (.int .i64 30)]))], (.int .i64 10), none⟩
theorem q158_ok : Pure Try.prog q158.f q158.args q158.r q158.fr := fact_of (n := 100000) (l := []) follows tab_ok trivial (by kernel_rfl)
def q159 : Fact := ⟨89, [(.agg (.gen [(.int .i64 0), (.int .i64 10), (.int .i64 10), (.int .i64 30)])), (.int .i64 0)], (.int .i64 100), none⟩
theorem q159_ok : Pure Try.prog q159.f q159.args q159.r q159.fr := fact_of (n := 100000) (l := [q158]) follows tab_ok ⟨q158_ok, trivial⟩ (by kernel_rfl)
def q160 : Fact := ⟨87, [(.int .i64 100), (.int .i64 100), (.int .i64 120)], (.bool true), none⟩
theorem q160_ok : Pure Try.prog q160.f q160.args q160.r q160.fr := fact_of (n := 100000) (l := []) follows tab_ok trivial (by kernel_rfl)
def q161 : Fact := ⟨89, [(.agg (.gen [(.int .i64 0), (.int .i64 10), (.int .i64 10), (.int .i64 30)])), (.int .i64 10)], (.int .i64 300), none⟩
theorem q161_ok : Pure Try.prog q161.f q161.args q161.r q161.fr := fact_of (n := 100000) (l := [q158]) follows tab_ok ⟨q158_ok, trivial⟩ (by kernel_rfl)
def q162 : Fact := ⟨87, [(.int .i64 300), (.int .i64 300), (.int .i64 320)], (.bool true), none⟩
theorem q162_ok : Pure Try.prog q162.f q162.args q162.r q162.fr := fact_of (n := 100000) (l := []) follows tab_ok trivial (by kernel_rfl)
def q163 : Fact := ⟨89, [(.agg (.gen [(.int .i64 0), (.int .i64 10), (.int .i64 10), (.int .i64 30)])), (.int .i64 20)], (.int .i64 500), none⟩
theorem q163_ok : Pure Try.prog q163.f q163.args q163.r q163.fr := fact_of (n := 100000) (l := [q158]) follows tab_ok ⟨q158_ok, trivial⟩ (by kernel_rfl)
def q164 : Fact := ⟨87, [(.int .i64 500), (.int .i64 500), (.int .i64 510)], (.bool true), none⟩
theorem q164_ok : Pure Try.prog q164.f q164.args q164.r q164.fr := fact_of (n := 100000) (l := []) follows tab_ok trivial (by kernel_rfl)
def q165 : Fact := ⟨126, [(.agg (.gen [(.int .i64 0), (.int .i64 10), (.int .i64 10), (.int .i64 30)])), (.list (.big (.agg [(.int .i64), (.int .i64), (.int .i64)]) [(.agg (.gen [(.int .i64 0), (.int .i64 10), (.int .i64 12)])), (.agg (.gen [(.int .i64 10), (.int .i64 30), (.int .i64 32)])), (.agg (.gen [(.int .i64 20), (.int .i64 50), (.int .i64 51)]))]))], (.bool true), none⟩
theorem q165_ok : Pure Try.prog q165.f q165.args q165.r q165.fr := fact_of (n := 100000) (l := [q159, q158, q160, q161, q162, q163, q164]) follows tab_ok ⟨q159_ok, ⟨q158_ok, ⟨q160_ok, ⟨q161_ok, ⟨q162_ok, ⟨q163_ok, ⟨q164_ok, trivial⟩⟩⟩⟩⟩⟩⟩ (by kernel_rfl)
def q166 : Fact := ⟨89, [(.agg (.gen [(.int .i64 0), (.int .i64 10), (.int .i64 10), (.int .i64 30)])), (.int .i64 30)], (.int .i64 700), none⟩
theorem q166_ok : Pure Try.prog q166.f q166.args q166.r q166.fr := fact_of (n := 100000) (l := [q158]) follows tab_ok ⟨q158_ok, trivial⟩ (by kernel_rfl)
def q167 : Fact := ⟨90, [(.int .i64 700), (.int .i64 10)], (.int .i64 70), none⟩
theorem q167_ok : Pure Try.prog q167.f q167.args q167.r q167.fr := fact_of (n := 100000) (l := []) follows tab_ok trivial (by kernel_rfl)
def q168 : Fact := ⟨90, [(.int .i64 (-700)), (.int .i64 10)], (.int .i64 (-70)), none⟩
theorem q168_ok : Pure Try.prog q168.f q168.args q168.r q168.fr := fact_of (n := 100000) (l := []) follows tab_ok trivial (by kernel_rfl)
def q169 : Fact := ⟨91, [(.agg (.gen [(.int .i64 0), (.int .i64 10), (.int .i64 10), (.int .i64 32)]))], (.int .i64 10), none⟩
theorem q169_ok : Pure Try.prog q169.f q169.args q169.r q169.fr := fact_of (n := 100000) (l := []) follows tab_ok trivial (by kernel_rfl)
def q170 : Fact := ⟨89, [(.agg (.gen [(.int .i64 0), (.int .i64 10), (.int .i64 10), (.int .i64 32)])), (.int .i64 0)], (.int .i64 100), none⟩
theorem q170_ok : Pure Try.prog q170.f q170.args q170.r q170.fr := fact_of (n := 100000) (l := [q169]) follows tab_ok ⟨q169_ok, trivial⟩ (by kernel_rfl)
def q171 : Fact := ⟨89, [(.agg (.gen [(.int .i64 0), (.int .i64 10), (.int .i64 10), (.int .i64 32)])), (.int .i64 10)], (.int .i64 320), none⟩
theorem q171_ok : Pure Try.prog q171.f q171.args q171.r q171.fr := fact_of (n := 100000) (l := [q169]) follows tab_ok ⟨q169_ok, trivial⟩ (by kernel_rfl)
def q172 : Fact := ⟨87, [(.int .i64 320), (.int .i64 300), (.int .i64 320)], (.bool true), none⟩
theorem q172_ok : Pure Try.prog q172.f q172.args q172.r q172.fr := fact_of (n := 100000) (l := []) follows tab_ok trivial (by kernel_rfl)
def q173 : Fact := ⟨89, [(.agg (.gen [(.int .i64 0), (.int .i64 10), (.int .i64 10), (.int .i64 32)])), (.int .i64 20)], (.int .i64 540), none⟩
theorem q173_ok : Pure Try.prog q173.f q173.args q173.r q173.fr := fact_of (n := 100000) (l := [q169]) follows tab_ok ⟨q169_ok, trivial⟩ (by kernel_rfl)
def q174 : Fact := ⟨87, [(.int .i64 540), (.int .i64 500), (.int .i64 510)], (.bool false), none⟩
theorem q174_ok : Pure Try.prog q174.f q174.args q174.r q174.fr := fact_of (n := 100000) (l := []) follows tab_ok trivial (by kernel_rfl)
def q175 : Fact := ⟨126, [(.agg (.gen [(.int .i64 0), (.int .i64 10), (.int .i64 10), (.int .i64 32)])), (.list (.big (.agg [(.int .i64), (.int .i64), (.int .i64)]) [(.agg (.gen [(.int .i64 0), (.int .i64 10), (.int .i64 12)])), (.agg (.gen [(.int .i64 10), (.int .i64 30), (.int .i64 32)])), (.agg (.gen [(.int .i64 20), (.int .i64 50), (.int .i64 51)]))]))], (.bool false), none⟩
theorem q175_ok : Pure Try.prog q175.f q175.args q175.r q175.fr := fact_of (n := 100000) (l := [q170, q169, q160, q171, q172, q173, q174]) follows tab_ok ⟨q170_ok, ⟨q169_ok, ⟨q160_ok, ⟨q171_ok, ⟨q172_ok, ⟨q173_ok, ⟨q174_ok, trivial⟩⟩⟩⟩⟩⟩⟩ (by kernel_rfl)
def q176 : Fact := ⟨91, [(.agg (.gen [(.int .i64 0), (.int .i64 12), (.int .i64 10), (.int .i64 30)]))], (.int .i64 10), none⟩
theorem q176_ok : Pure Try.prog q176.f q176.args q176.r q176.fr := fact_of (n := 100000) (l := []) follows tab_ok trivial (by kernel_rfl)
def q177 : Fact := ⟨89, [(.agg (.gen [(.int .i64 0), (.int .i64 12), (.int .i64 10), (.int .i64 30)])), (.int .i64 0)], (.int .i64 120), none⟩
theorem q177_ok : Pure Try.prog q177.f q177.args q177.r q177.fr := fact_of (n := 100000) (l := [q176]) follows tab_ok ⟨q176_ok, trivial⟩ (by kernel_rfl)
def q178 : Fact := ⟨87, [(.int .i64 120), (.int .i64 100), (.int .i64 120)], (.bool true), none⟩
theorem q178_ok : Pure Try.prog q178.f q178.args q178.r q178.fr := fact_of (n := 100000) (l := []) follows tab_ok trivial (by kernel_rfl)
def q179 : Fact := ⟨89, [(.agg (.gen [(.int .i64 0), (.int .i64 12), (.int .i64 10), (.int .i64 30)])), (.int .i64 10)], (.int .i64 300), none⟩
theorem q179_ok : Pure Try.prog q179.f q179.args q179.r q179.fr := fact_of (n := 100000) (l := [q176]) follows tab_ok ⟨q176_ok, trivial⟩ (by kernel_rfl)
def q180 : Fact := ⟨89, [(.agg (.gen [(.int .i64 0), (.int .i64 12), (.int .i64 10), (.int .i64 30)])), (.int .i64 20)], (.int .i64 480), none⟩
theorem q180_ok : Pure Try.prog q180.f q180.args q180.r q180.fr := fact_of (n := 100000) (l := [q176]) follows tab_ok ⟨q176_ok, trivial⟩ (by kernel_rfl)
def q181 : Fact := ⟨87, [(.int .i64 480), (.int .i64 500), (.int .i64 510)], (.bool false), none⟩
theorem q181_ok : Pure Try.prog q181.f q181.args q181.r q181.fr := fact_of (n := 100000) (l := []) follows tab_ok trivial (by kernel_rfl)
def q182 : Fact := ⟨126, [(.agg (.gen [(.int .i64 0), (.int .i64 12), (.int .i64 10), (.int .i64 30)])), (.list (.big (.agg [(.int .i64), (.int .i64), (.int .i64)]) [(.agg (.gen [(.int .i64 0), (.int .i64 10), (.int .i64 12)])), (.agg (.gen [(.int .i64 10), (.int .i64 30), (.int .i64 32)])), (.agg (.gen [(.int .i64 20), (.int .i64 50), (.int .i64 51)]))]))], (.bool false), none⟩
theorem q182_ok : Pure Try.prog q182.f q182.args q182.r q182.fr := fact_of (n := 100000) (l := [q177, q176, q178, q179, q162, q180, q181]) follows tab_ok ⟨q177_ok, ⟨q176_ok, ⟨q178_ok, ⟨q179_ok, ⟨q162_ok, ⟨q180_ok, ⟨q181_ok, trivial⟩⟩⟩⟩⟩⟩⟩ (by kernel_rfl)
def q183 : Fact := ⟨91, [(.agg (.gen [(.int .i64 0), (.int .i64 12), (.int .i64 10), (.int .i64 32)]))], (.int .i64 10), none⟩
theorem q183_ok : Pure Try.prog q183.f q183.args q183.r q183.fr := fact_of (n := 100000) (l := []) follows tab_ok trivial (by kernel_rfl)
def q184 : Fact := ⟨89, [(.agg (.gen [(.int .i64 0), (.int .i64 12), (.int .i64 10), (.int .i64 32)])), (.int .i64 0)], (.int .i64 120), none⟩
theorem q184_ok : Pure Try.prog q184.f q184.args q184.r q184.fr := fact_of (n := 100000) (l := [q183]) follows tab_ok ⟨q183_ok, trivial⟩ (by kernel_rfl)
def q185 : Fact := ⟨89, [(.agg (.gen [(.int .i64 0), (.int .i64 12), (.int .i64 10), (.int .i64 32)])), (.int .i64 10)], (.int .i64 320), none⟩
theorem q185_ok : Pure Try.prog q185.f q185.args q185.r q185.fr := fact_of (n := 100000) (l := [q183]) follows tab_ok ⟨q183_ok, trivial⟩ (by kernel_rfl)
def q186 : Fact := ⟨89, [(.agg (.gen [(.int .i64 0), (.int .i64 12), (.int .i64 10), (.int .i64 32)])), (.int .i64 20)], (.int .i64 520), none⟩
theorem q186_ok : Pure Try.prog q186.f q186.args q186.r q186.fr := fact_of (n := 100000) (l := [q183]) follows tab_ok ⟨q183_ok, trivial⟩ (by kernel_rfl)
def q187 : Fact := ⟨87, [(.int .i64 520), (.int .i64 500), (.int .i64 510)], (.bool false), none⟩
theorem q187_ok : Pure Try.prog q187.f q187.args q187.r q187.fr := fact_of (n := 100000) (l := []) follows tab_ok trivial (by kernel_rfl)
def q188 : Fact := ⟨126, [(.agg (.gen [(.int .i64 0), (.int .i64 12), (.int .i64 10), (.int .i64 32)])), (.list (.big (.agg [(.int .i64), (.int .i64), (.int .i64)]) [(.agg (.gen [(.int .i64 0), (.int .i64 10), (.int .i64 12)])), (.agg (.gen [(.int .i64 10), (.int .i64 30), (.int .i64 32)])), (.agg (.gen [(.int .i64 20), (.int .i64 50), (.int .i64 51)]))]))], (.bool false), none⟩
theorem q188_ok : Pure Try.prog q188.f q188.args q188.r q188.fr := fact_of (n := 100000) (l := [q184, q183, q178, q185, q172, q186, q187]) follows tab_ok ⟨q184_ok, ⟨q183_ok, ⟨q178_ok, ⟨q185_ok, ⟨q172_ok, ⟨q186_ok, ⟨q187_ok, trivial⟩⟩⟩⟩⟩⟩⟩ (by kernel_rfl)
def q189 : Fact := ⟨91, [(.agg (.gen [(.int .i64 0), (.int .i64 10), (.int .i64 20), (.int .i64 50)]))], (.int .i64 20), none⟩
theorem q189_ok : Pure Try.prog q189.f q189.args q189.r q189.fr := fact_of (n := 100000) (l := []) follows tab_ok trivial (by kernel_rfl)
def q190 : Fact := ⟨89, [(.agg (.gen [(.int .i64 0), (.int .i64 10), (.int .i64 20), (.int .i64 50)])), (.int .i64 0)], (.int .i64 200), none⟩
theorem q190_ok : Pure Try.prog q190.f q190.args q190.r q190.fr := fact_of (n := 100000) (l := [q189]) follows tab_ok ⟨q189_ok, trivial⟩ (by kernel_rfl)
def q191 : Fact := ⟨87, [(.int .i64 200), (.int .i64 200), (.int .i64 240)], (.bool true), none⟩
theorem q191_ok : Pure Try.prog q191.f q191.args q191.r q191.fr := fact_of (n := 100000) (l := []) follows tab_ok trivial (by kernel_rfl)
def q192 : Fact := ⟨89, [(.agg (.gen [(.int .i64 0), (.int .i64 10), (.int .i64 20), (.int .i64 50)])), (.int .i64 10)], (.int .i64 600), none⟩
theorem q192_ok : Pure Try.prog q192.f q192.args q192.r q192.fr := fact_of (n := 100000) (l := [q189]) follows tab_ok ⟨q189_ok, trivial⟩ (by kernel_rfl)
def q193 : Fact := ⟨87, [(.int .i64 600), (.int .i64 600), (.int .i64 640)], (.bool true), none⟩
theorem q193_ok : Pure Try.prog q193.f q193.args q193.r q193.fr := fact_of (n := 100000) (l := []) follows tab_ok trivial (by kernel_rfl)
def q194 : Fact := ⟨89, [(.agg (.gen [(.int .i64 0), (.int .i64 10), (.int .i64 20), (.int .i64 50)])), (.int .i64 20)], (.int .i64 1000), none⟩
theorem q194_ok : Pure Try.prog q194.f q194.args q194.r q194.fr := fact_of (n := 100000) (l := [q189]) follows tab_ok ⟨q189_ok, trivial⟩ (by kernel_rfl)
def q195 : Fact := ⟨87, [(.int .i64 1000), (.int .i64 1000), (.int .i64 1020)], (.bool true), none⟩
theorem q195_ok : Pure Try.prog q195.f q195.args q195.r q195.fr := fact_of (n := 100000) (l := []) follows tab_ok trivial (by kernel_rfl)
def q196 : Fact := ⟨126, [(.agg (.gen [(.int .i64 0), (.int .i64 10), (.int .i64 20), (.int .i64 50)])), (.list (.big (.agg [(.int .i64), (.int .i64), (.int .i64)]) [(.agg (.gen [(.int .i64 0), (.int .i64 10), (.int .i64 12)])), (.agg (.gen [(.int .i64 10), (.int .i64 30), (.int .i64 32)])), (.agg (.gen [(.int .i64 20), (.int .i64 50), (.int .i64 51)]))]))], (.bool true), none⟩
theorem q196_ok : Pure Try.prog q196.f q196.args q196.r q196.fr := fact_of (n := 100000) (l := [q190, q189, q191, q192, q193, q194, q195]) follows tab_ok ⟨q190_ok, ⟨q189_ok, ⟨q191_ok, ⟨q192_ok, ⟨q193_ok, ⟨q194_ok, ⟨q195_ok, trivial⟩⟩⟩⟩⟩⟩⟩ (by kernel_rfl)
def q197 : Fact := ⟨89, [(.agg (.gen [(.int .i64 0), (.int .i64 10), (.int .i64 20), (.int .i64 50)])), (.int .i64 30)], (.int .i64 1400), none⟩
theorem q197_ok : Pure Try.prog q197.f q197.args q197.r q197.fr := fact_of (n := 100000) (l := [q189]) follows tab_ok ⟨q189_ok, trivial⟩ (by kernel_rfl)
def q198 : Fact := ⟨90, [(.int .i64 1400), (.int .i64 20)], (.int .i64 70), none⟩
theorem q198_ok : Pure Try.prog q198.f q198.args q198.r q198.fr := fact_of (n := 100000) (l := []) follows tab_ok trivial (by kernel_rfl)
def q199 : Fact := ⟨90, [(.int .i64 (-1400)), (.int .i64 20)], (.int .i64 (-70)), none⟩
theorem q199_ok : Pure Try.prog q199.f q199.args q199.r q199.fr := fact_of (n := 100000) (l := []) follows tab_ok trivial (by kernel_rfl)
def q200 : Fact := ⟨91, [(.agg (.gen [(.int .i64 0), (.int .i64 10), (.int .i64 20), (.int .i64 51)]))], (.int .i64 20), none⟩
theorem q200_ok : Pure Try.prog q200.f q200.args q200.r q200.fr := fact_of (n := 100000) (l := []) follows tab_ok trivial (by kernel_rfl)
def q201 : Fact := ⟨89, [(.agg (.gen [(.int .i64 0), (.int .i64 10), (.int .i64 20), (.int .i64 51)])), (.int .i64 0)], (.int .i64 200), none⟩
theorem q201_ok : Pure Try.prog q201.f q201.args q201.r q201.fr := fact_of (n := 100000) (l := [q200]) follows tab_ok ⟨q200_ok, trivial⟩ (by kernel_rfl)
def q202 : Fact := ⟨89, [(.agg (.gen [(.int .i64 0), (.int .i64 10), (.int .i64 20), (.int .i64 51)])), (.int .i64 10)], (.int .i64 610), none⟩
theorem q202_ok : Pure Try.prog q202.f q202.args q202.r q202.fr := fact_of (n := 100000) (l := [q200]) follows tab_ok ⟨q200_ok, trivial⟩ (by kernel_rfl)
def q203 : Fact := ⟨87, [(.int .i64 610), (.int .i64 600), (.int .i64 640)], (.bool true), none⟩
theorem q203_ok : Pure Try.prog q203.f q203.args q203.r q203.fr := fact_of (n := 100000) (l := []) follows tab_ok trivial (by kernel_rfl)
def q204 : Fact := ⟨89, [(.agg (.gen [(.int .i64 0), (.int .i64 10), (.int .i64 20), (.int .i64 51)])), (.int .i64 20)], (.int .i64 1020), none⟩
theorem q204_ok : Pure Try.prog q204.f q204.args q204.r q204.fr := fact_of (n := 100000) (l := [q200]) follows tab_ok ⟨q200_ok, trivial⟩ (by kernel_rfl)
def q205 : Fact := ⟨87, [(.int .i64 1020), (.int .i64 1000), (.int .i64 1020)], (.bool true), none⟩
theorem q205_ok : Pure Try.prog q205.f q205.args q205.r q205.fr := fact_of (n := 100000) (l := []) follows tab_ok trivial (by kernel_rfl)
def q206 : Fact := ⟨126, [(.agg (.gen [(.int .i64 0), (.int .i64 10), (.int .i64 20), (.int .i64 51)])), (.list (.big (.agg [(.int .i64), (.int .i64), (.int .i64)]) [(.agg (.gen [(.int .i64 0), (.int .i64 10), (.int .i64 12)])), (.agg (.gen [(.int .i64 10), (.int .i64 30), (.int .i64 32)])), (.agg (.gen [(.int .i64 20), (.int .i64 50), (.int .i64 51)]))]))], (.bool true), none⟩
theorem q206_ok : Pure Try.prog q206.f q206.args q206.r q206.fr := fact_of (n := 100000) (l := [q201, q200, q191, q202, q203, q204, q205]) follows tab_ok ⟨q201_ok, ⟨q200_ok, ⟨q191_ok, ⟨q202_ok, ⟨q203_ok, ⟨q204_ok, ⟨q205_ok, trivial⟩⟩⟩⟩⟩⟩⟩ (by kernel_rfl)
def q207 : Fact := ⟨89, [(.agg (.gen [(.int .i64 0), (.int .i64 10), (.int .i64 20), (.int .i64 51)])), (.int .i64 30)], (.int .i64 1430), none⟩
theorem q207_ok : Pure Try.prog q207.f q207.args q207.r q207.fr := fact_of (n := 100000) (l := [q200]) follows tab_ok ⟨q200_ok, trivial⟩ (by kernel_rfl)
def q208 : Fact := ⟨90, [(.int .i64 1430), (.int .i64 20)], (.int .i64 71), none⟩
theorem q208_ok : Pure Try.prog q208.f q208.args q208.r q208.fr := fact_of (n := 100000) (l := []) follows tab_ok trivial (by kernel_rfl)
def q209 : Fact := ⟨90, [(.int .i64 (-1430)), (.int .i64 20)], (.int .i64 (-72)), none⟩
theorem q209_ok : Pure Try.prog q209.f q209.args q209.r q209.fr := fact_of (n := 100000) (l := []) follows tab_ok trivial (by kernel_rfl)
def q210 : Fact := ⟨91, [(.agg (.gen [(.int .i64 0), (.int .i64 12), (.int .i64 20), (.int .i64 50)]))], (.int .i64 20), none⟩
theorem q210_ok : Pure Try.prog q210.f q210.args q210.r q210.fr := fact_of (n := 100000) (l := []) follows tab_ok trivial (by kernel_rfl)
def q211 : Fact := ⟨89, [(.agg (.gen [(.int .i64 0), (.int .i64 12), (.int .i64 20), (.int .i64 50)])), (.int .i64 0)], (.int .i64 240), none⟩
theorem q211_ok : Pure Try.prog q211.f q211.args q211.r q211.fr := fact_of (n := 100000) (l := [q210]) follows tab_ok ⟨q210_ok, trivial⟩ (by kernel_rfl)
def q212 : Fact := ⟨87, [(.int .i64 240), (.int .i64 200), (.int .i64 240)], (.bool true), none⟩
theorem q212_ok : Pure Try.prog q212.f q212.args q212.r q212.fr := fact_of (n := 100000) (l := []) follows tab_ok trivial (by kernel_rfl)
def q213 : Fact := ⟨89, [(.agg (.gen [(.int .i64 0), (.int .i64 12), (.int .i64 20), (.int .i64 50)])), (.int .i64 10)], (.int .i64 620), none⟩
theorem q213_ok : Pure Try.prog q213.f q213.args q213.r q213.fr := fact_of (n := 100000) (l := [q210]) follows tab_ok ⟨q210_ok, trivial⟩ (by kernel_rfl)
def q214 : Fact := ⟨87, [(.int .i64 620), (.int .i64 600), (.int .i64 640)], (.bool true), none⟩
theorem q214_ok : Pure Try.prog q214.f q214.args q214.r q214.fr := fact_of (n := 100000) (l := []) follows tab_ok trivial (by kernel_rfl)
def q215 : Fact := ⟨89, [(.agg (.gen [(.int .i64 0), (.int .i64 12), (.int .i64 20), (.int .i64 50)])), (.int .i64 20)], (.int .i64 1000), none⟩
theorem q215_ok : Pure Try.prog q215.f q215.args q215.r q215.fr := fact_of (n := 100000) (l := [q210]) follows tab_ok ⟨q210_ok, trivial⟩ (by kernel_rfl)
def q216 : Fact := ⟨126, [(.agg (.gen [(.int .i64 0), (.int .i64 12), (.int .i64 20), (.int .i64 50)])), (.list (.big (.agg [(.int .i64), (.int .i64), (.int .i64)]) [(.agg (.gen [(.int .i64 0), (.int .i64 10), (.int .i64 12)])), (.agg (.gen [(.int .i64 10), (.int .i64 30), (.int .i64 32)])), (.agg (.gen [(.int .i64 20), (.int .i64 50), (.int .i64 51)]))]))], (.bool true), none⟩
theorem q216_ok : Pure Try.prog q216.f q216.args q216.r q216.fr := fact_of (n := 100000) (l := [q211, q210, q212, q213, q214, q215, q195]) follows tab_ok ⟨q211_ok, ⟨q210_ok, ⟨q212_ok, ⟨q213_ok, ⟨q214_ok, ⟨q215_ok, ⟨q195_ok, trivial⟩⟩⟩⟩⟩⟩⟩ (by kernel_rfl)
def q217 : Fact := ⟨89, [(.agg (.gen [(.int .i64 0), (.int .i64 12), (.int .i64 20), (.int .i64 50)])), (.int .i64 30)], (.int .i64 1380), none⟩
theorem q217_ok : Pure Try.prog q217.f q217.args q217.r q217.fr := fact_of (n := 100000) (l := [q210]) follows tab_ok ⟨q210_ok, trivial⟩ (by kernel_rfl)
def q218 : Fact := ⟨90, [(.int .i64 1380), (.int .i64 20)], (.int .i64 69), none⟩
theorem q218_ok : Pure Try.prog q218.f q218.args q218.r q218.fr := fact_of (n := 100000) (l := []) follows tab_ok trivial (by kernel_rfl)
def q219 : Fact := ⟨90, [(.int .i64 (-1380)), (.int .i64 20)], (.int .i64 (-69)), none⟩
theorem q219_ok : Pure Try.prog q219.f q219.args q219.r q219.fr := fact_of (n := 100000) (l := []) follows tab_ok trivial (by kernel_rfl)
def q220 : Fact := ⟨91, [(.agg (.gen [(.int .i64 0), (.int .i64 12), (.int .i64 20), (.int .i64 51)]))], (.int .i64 20), none⟩
theorem q220_ok : Pure Try.prog q220.f q220.args q220.r q220.fr := fact_of (n := 100000) (l := []) follows tab_ok trivial (by kernel_rfl)
def q221 : Fact := ⟨89, [(.agg (.gen [(.int .i64 0), (.int .i64 12), (.int .i64 20), (.int .i64 51)])), (.int .i64 0)], (.int .i64 240), none⟩
theorem q221_ok : Pure Try.prog q221.f q221.args q221.r q221.fr := fact_of (n := 100000) (l := [q220]) follows tab_ok ⟨q220_ok, trivial⟩ (by kernel_rfl)
def q222 : Fact := ⟨89, [(.agg (.gen [(.int .i64 0), (.int .i64 12), (.int .i64 20), (.int .i64 51)])), (.int .i64 10)], (.int .i64 630), none⟩
theorem q222_ok : Pure Try.prog q222.f q222.args q222.r q222.fr := fact_of (n := 100000) (l := [q220]) follows tab_ok ⟨q220_ok, trivial⟩ (by kernel_rfl)
def q223 : Fact := ⟨87, [(.int .i64 630), (.int .i64 600), (.int .i64 640)], (.bool true), none⟩
theorem q223_ok : Pure Try.prog q223.f q223.args q223.r q223.fr := fact_of (n := 100000) (l := []) follows tab_ok trivial (by kernel_rfl)
def q224 : Fact := ⟨89, [(.agg (.gen [(.int .i64 0), (.int .i64 12), (.int .i64 20), (.int .i64 51)])), (.int .i64 20)], (.int .i64 1020), none⟩
theorem q224_ok : Pure Try.prog q224.f q224.args q224.r q224.fr := fact_of (n := 100000) (l := [q220]) follows tab_ok ⟨q220_ok, trivial⟩ (by kernel_rfl)
def q225 : Fact := ⟨126, [(.agg (.gen [(.int .i64 0), (.int .i64 12), (.int .i64 20), (.int .i64 51)])), (.list (.big (.agg [(.int .i64), (.int .i64), (.int .i64)]) [(.agg (.gen [(.int .i64 0), (.int .i64 10), (.int .i64 12)])), (.agg (.gen [(.int .i64 10), (.int .i64 30), (.int .i64 32)])), (.agg (.gen [(.int .i64 20), (.int .i64 50), (.int .i64 51)]))]))], (.bool true), none⟩
theorem q225_ok : Pure Try.prog q225.f q225.args q225.r q225.fr := fact_of (n := 100000) (l := [q221, q220, q212, q222, q223, q224, q205]) follows tab_ok ⟨q221_ok, ⟨q220_ok, ⟨q212_ok, ⟨q222_ok, ⟨q223_ok, ⟨q224_ok, ⟨q205_ok, trivial⟩⟩⟩⟩⟩⟩⟩ (by kernel_rfl)
def q226 : Fact := ⟨89, [(.agg (.gen [(.int .i64 0), (.int .i64 12), (.int .i64 20), (.int .i64 51)])), (.int .i64 30)], (.int .i64 1410), none⟩
theorem q226_ok : Pure Try.prog q226.f q226.args q226.r q226.fr := fact_of (n := 100000) (l := [q220]) follows tab_ok ⟨q220_ok, trivial⟩ (by kernel_rfl)
def q227 : Fact := ⟨90, [(.int .i64 1410), (.int .i64 20)], (.int .i64 70), none⟩
theorem q227_ok : Pure Try.prog q227.f q227.args q227.r q227.fr := fact_of (n := 100000) (l := []) follows tab_ok trivial (by kernel_rfl)
def q228 : Fact := ⟨90, [(.int .i64 (-1410)), (.int .i64 20)], (.int .i64 (-71)), none⟩
theorem q228_ok : Pure Try.prog q228.f q228.args q228.r q228.fr := fact_of (n := 100000) (l := []) follows tab_ok trivial (by kernel_rfl)
def q229 : Fact := ⟨91, [(.agg (.gen [(.int .i64 10), (.int .i64 30), (.int .i64 20), (.int .i64 50)]))], (.int .i64 10), none⟩
theorem q229_ok : Pure Try.prog q229.f q229.args q229.r q229.fr := fact_of (n := 100000) (l := []) follows tab_ok trivial (by kernel_rfl)
def q230 : Fact := ⟨89, [(.agg (.gen [(.int .i64 10), (.int .i64 30), (.int .i64 20), (.int .i64 50)])), (.int .i64 0)], (.int .i64 100), none⟩
theorem q230_ok : Pure Try.prog q230.f q230.args q230.r q230.fr := fact_of (n := 100000) (l := [q229]) follows tab_ok ⟨q229_ok, trivial⟩ (by kernel_rfl)
def q231 : Fact := ⟨89, [(.agg (.gen [(.int .i64 10), (.int .i64 30), (.int .i64 20), (.int .i64 50)])), (.int .i64 10)], (.int .i64 300), none⟩
theorem q231_ok : Pure Try.prog q231.f q231.args q231.r q231.fr := fact_of (n := 100000) (l := [q229]) follows tab_ok ⟨q229_ok, trivial⟩ (by kernel_rfl)
def q232 : Fact := ⟨89, [(.agg (.gen [(.int .i64 10), (.int .i64 30), (.int .i64 20), (.int .i64 50)])), (.int .i64 20)], (.int .i64 500), none⟩
theorem q232_ok : Pure Try.prog q232.f q232.args q232.r q232.fr := fact_of (n := 100000) (l := [q229]) follows tab_ok ⟨q229_ok, trivial⟩ (by kernel_rfl)
def q233 : Fact := ⟨126, [(.agg (.gen [(.int .i64 10), (.int .i64 30), (.int .i64 20), (.int .i64 50)])), (.list (.big (.agg [(.int .i64), (.int .i64), (.int .i64)]) [(.agg (.gen [(.int .i64 0), (.int .i64 10), (.int .i64 12)])), (.agg (.gen [(.int .i64 10), (.int .i64 30), (.int .i64 32)])), (.agg (.gen [(.int .i64 20), (.int .i64 50), (.int .i64 51)]))]))], (.bool true), none⟩
theorem q233_ok : Pure Try.prog q233.f q233.args q233.r q233.fr := fact_of (n := 100000) (l := [q230, q229, q160, q231, q162, q232, q164]) follows tab_ok ⟨q230_ok, ⟨q229_ok, ⟨q160_ok, ⟨q231_ok, ⟨q162_ok, ⟨q232_ok, ⟨q164_ok, trivial⟩⟩⟩⟩⟩⟩⟩ (by kernel_rfl)
def q234 : Fact := ⟨89, [(.agg (.gen [(.int .i64 10), (.int .i64 30), (.int .i64 20), (.int .i64 50)])), (.int .i64 30)], (.int .i64 700), none⟩
theorem q234_ok : Pure Try.prog q234.f q234.args q234.r q234.fr := fact_of (n := 100000) (l := [q229]) follows tab_ok ⟨q229_ok, trivial⟩ (by kernel_rfl)
def q235 : Fact := ⟨91, [(.agg (.gen [(.int .i64 10), (.int .i64 30), (.int .i64 20), (.int .i64 51)]))], (.int .i64 10), none⟩
theorem q235_ok : Pure Try.prog q235.f q235.args q235.r q235.fr := fact_of (n := 100000) (l := []) follows tab_ok trivial (by kernel_rfl)
def q236 : Fact := ⟨89, [(.agg (.gen [(.int .i64 10), (.int .i64 30), (.int .i64 20), (.int .i64 51)])), (.int .i64 0)], (.int .i64 90), none⟩
theorem q236_ok : Pure Try.prog q236.f q236.args q236.r q236.fr := fact_of (n := 100000) (l := [q235]) follows tab_ok ⟨q235_ok, trivial⟩ (by kernel_rfl)
def q237 : Fact := ⟨87, [(.int .i64 90), (.int .i64 100), (.int .i64 120)], (.bool false), none⟩
theorem q237_ok : Pure Try.prog q237.f q237.args q237.r q237.fr := fact_of (n := 100000) (l := []) follows tab_ok trivial (by kernel_rfl)
def q238 : Fact := ⟨126, [(.agg (.gen [(.int .i64 10), (.int .i64 30), (.int .i64 20), (.int .i64 51)])), (.list (.big (.agg [(.int .i64), (.int .i64), (.int .i64)]) [(.agg (.gen [(.int .i64 0), (.int .i64 10), (.int .i64 12)])), (.agg (.gen [(.int .i64 10), (.int .i64 30), (.int .i64 32)])), (.agg (.gen [(.int .i64 20), (.int .i64 50), (.int .i64 51)]))]))], (.bool false), none⟩
theorem q238_ok : Pure Try.prog q238.f q238.args q238.r q238.fr := fact_of (n := 100000) (l := [q236, q235, q237]) follows tab_ok ⟨q236_ok, ⟨q235_ok, ⟨q237_ok, trivial⟩⟩⟩ (by kernel_rfl)
def q239 : Fact := ⟨91, [(.agg (.gen [(.int .i64 10), (.int .i64 32), (.int .i64 20), (.int .i64 50)]))], (.int .i64 10), none⟩
theorem q239_ok : Pure Try.prog q239.f q239.args q239.r q239.fr := fact_of (n := 100000) (l := []) follows tab_ok trivial (by kernel_rfl)
def q240 : Fact := ⟨89, [(.agg (.gen [(.int .i64 10), (.int .i64 32), (.int .i64 20), (.int .i64 50)])), (.int .i64 0)], (.int .i64 140), none⟩
theorem q240_ok : Pure Try.prog q240.f q240.args q240.r q240.fr := fact_of (n := 100000) (l := [q239]) follows tab_ok ⟨q239_ok, trivial⟩ (by kernel_rfl)
def q241 : Fact := ⟨87, [(.int .i64 140), (.int .i64 100), (.int .i64 120)], (.bool false), none⟩
theorem q241_ok : Pure Try.prog q241.f q241.args q241.r q241.fr := fact_of (n := 100000) (l := []) follows tab_ok trivial (by kernel_rfl)
def q242 : Fact := ⟨126, [(.agg (.gen [(.int .i64 10), (.int .i64 32), (.int .i64 20), (.int .i64 50)])), (.list (.big (.agg [(.int .i64), (.int .i64), (.int .i64)]) [(.agg (.gen [(.int .i64 0), (.int .i64 10), (.int .i64 12)])), (.agg (.gen [(.int .i64 10), (.int .i64 30), (.int .i64 32)])), (.agg (.gen [(.int .i64 20), (.int .i64 50), (.int .i64 51)]))]))], (.bool false), none⟩
theorem q242_ok : Pure Try.prog q242.f q242.args q242.r q242.fr := fact_of (n := 100000) (l := [q240, q239, q241]) follows tab_ok ⟨q240_ok, ⟨q239_ok, ⟨q241_ok, trivial⟩⟩⟩ (by kernel_rfl)
def q243 : Fact := ⟨91, [(.agg (.gen [(.int .i64 10), (.int .i64 32), (.int .i64 20), (.int .i64 51)]))], (.int .i64 10), none⟩
theorem q243_ok : Pure Try.prog q243.f q243.args q243.r q243.fr := fact_of (n := 100000) (l := []) follows tab_ok trivial (by kernel_rfl)
def q244 : Fact := ⟨89, [(.agg (.gen [(.int .i64 10), (.int .i64 32), (.int .i64 20), (.int .i64 51)])), (.int .i64 0)], (.int .i64 130), none⟩
theorem q244_ok : Pure Try.prog q244.f q244.args q244.r q244.fr := fact_of (n := 100000) (l := [q243]) follows tab_ok ⟨q243_ok, trivial⟩ (by kernel_rfl)
def q245 : Fact := ⟨87, [(.int .i64 130), (.int .i64 100), (.int .i64 120)], (.bool false), none⟩
theorem q245_ok : Pure Try.prog q245.f q245.args q245.r q245.fr := fact_of (n := 100000) (l := []) follows tab_ok trivial (by kernel_rfl)
def q246 : Fact := ⟨126, [(.agg (.gen [(.int .i64 10), (.int .i64 32), (.int .i64 20), (.int .i64 51)])), (.list (.big (.agg [(.int .i64), (.int .i64), (.int .i64)]) [(.agg (.gen [(.int .i64 0), (.int .i64 10), (.int .i64 12)])), (.agg (.gen [(.int .i64 10), (.int .i64 30), (.int .i64 32)])), (.agg (.gen [(.int .i64 20), (.int .i64 50), (.int .i64 51)]))]))], (.bool false), none⟩
theorem q246_ok : Pure Try.prog q246.f q246.args q246.r q246.fr := fact_of (n := 100000) (l := [q244, q243, q245]) follows tab_ok ⟨q244_ok, ⟨q243_ok, ⟨q245_ok, trivial⟩⟩⟩ (by kernel_rfl)
def q247 : Fact := ⟨23, [(.list (.big (.agg [(.int .i64), (.int .i64), (.int .i64)]) [(.agg (.gen [(.int .i64 0), (.int .i64 10), (.int .i64 12)])), (.agg (.gen [(.int .i64 10), (.int .i64 30), (.int .i64 32)])), (.agg (.gen [(.int .i64 20), (.int .i64 50), (.int .i64 51)]))])), (.int .i64 30)], (.tup [(.agg (.gen [(.int .i64 69), (.int .i64 72)])), (.int .i64 0)]), none⟩
theorem q247_ok : Pure Try.prog q247.f q247.args q247.r q247.fr := fact_of (n := 100000) (l := [q153, q157, q4, q32, q165, q166, q158, q167, q168, q175, q182, q188, q196, q197, q189, q198, q199, q206, q207, q200, q208, q209, q216, q217, q210, q218, q219, q225, q226, q220, q227, q228, q233, q234, q229, q238, q242, q246]) follows tab_ok ⟨q153_ok, ⟨q157_ok, ⟨q4_ok, ⟨q32_ok, ⟨q165_ok, ⟨q166_ok, ⟨q158_ok, ⟨q167_ok, ⟨q168_ok, ⟨q175_ok, ⟨q182_ok, ⟨q188_ok, ⟨q196_ok, ⟨q197_ok, ⟨q189_ok, ⟨q198_ok, ⟨q199_ok, ⟨q206_ok, ⟨q207_ok, ⟨q200_ok, ⟨q208_ok, ⟨q209_ok, ⟨q216_ok, ⟨q217_ok, ⟨q210_ok, ⟨q218_ok, ⟨q219_ok, ⟨q225_ok, ⟨q226_ok, ⟨q220_ok, ⟨q227_ok, ⟨q228_ok, ⟨q233_ok, ⟨q234_ok, ⟨q229_ok, ⟨q238_ok, ⟨q242_ok, ⟨q246_ok, trivial⟩⟩⟩⟩⟩⟩⟩⟩⟩⟩⟩⟩⟩⟩⟩⟩⟩⟩⟩⟩⟩⟩⟩⟩⟩⟩⟩⟩⟩⟩⟩⟩⟩⟩⟩⟩⟩⟩ (by kernel_rfl)
def q248 : Fact := ⟨67, [(.list (.ints .i64 [3, 255, 0, 0])), (.list (.ints .i64 [3, 255, 0, 0]))], (.bool true), none⟩
theorem q248_ok : Pure Try.prog q248.f q248.args q248.r q248.fr := fact_of (n := 100000) (l := []) follows tab_ok trivial (by kernel_rfl)
def q249 : Fact := ⟨67, [(.list (.ints .i64 [1, 2])), (.list (.ints .i64 [1, 2]))], (.bool true), none⟩
theorem q249_ok : Pure Try.prog q249.f q249.args q249.r q249.fr := fact_of (n := 100000) (l := []) follows tab_ok trivial (by kernel_rfl)
def q250 : Fact := ⟨81, [(.agg (.gen [(.int .i64 9), (.int .i64 0), (.list (.ints .i64 [1, 2]))])), (.agg (.gen [(.int .i64 9), (.int .i64 0), (.list (.ints .i64 [1, 2]))]))], (.bool true), none⟩
theorem q250_ok : Pure Try.prog q250.f q250.args q250.r q250.fr := fact_of (n := 100000) (l := [q249]) follows tab_ok ⟨q249_ok, trivial⟩ (by kernel_rfl)
def q251 : Fact := ⟨67, [(.list (.ints .i64 [3])), (.list (.ints .i64 [3]))], (.bool true), none⟩
theorem q251_ok : Pure Try.prog q251.f q251.args q251.r q251.fr := fact_of (n := 100000) (l := []) follows tab_ok trivial (by kernel_rfl)
def q252 : Fact := ⟨81, [(.agg (.gen [(.int .i64 9), (.int .i64 1), (.list (.ints .i64 [3]))])), (.agg (.gen [(.int .i64 9), (.int .i64 1), (.list (.ints .i64 [3]))]))], (.bool true), none⟩
theorem q252_ok : Pure Try.prog q252.f q252.args q252.r q252.fr := fact_of (n := 100000) (l := [q251]) follows tab_ok ⟨q251_ok, trivial⟩ (by kernel_rfl)
def q253 : Fact := ⟨21, [(.list (.gen [(.agg (.gen [(.int .i64 9), (.int .i64 0), (.list (.ints .i64 [1, 2]))])), (.agg (.gen [(.int .i64 9), (.int .i64 1), (.list (.ints .i64 [3]))]))])), (.list (.gen [(.agg (.gen [(.int .i64 9), (.int .i64 0), (.list (.ints .i64 [1, 2]))])), (.agg (.gen [(.int .i64 9), (.int .i64 1), (.list (.ints .i64 [3]))]))]))], (.bool true), none⟩
theorem q253_ok : Pure Try.prog q253.f q253.args q253.r q253.fr := fact_of (n := 100000) (l := [q250, q252]) follows tab_ok ⟨q250_ok, ⟨q252_ok, trivial⟩⟩ (by kernel_rfl)
def q254 : Fact := ⟨14, [], (.bool true), none⟩
theorem q254_ok : Pure Try.prog q254.f q254.args q254.r q254.fr := fact_of (n := 100000) (l := [q22, q23, q24, q68, q75, q116, q94, q105, q101, q104, q102, q103, q106, q108, q109, q110, q112, q113, q114, q115, q122, q156, q247, q248, q253]) follows tab_ok ⟨q22_ok, ⟨q23_ok, ⟨q24_ok, ⟨q68_ok, ⟨q75_ok, ⟨q116_ok, ⟨q94_ok, ⟨q105_ok, ⟨q101_ok, ⟨q104_ok, ⟨q102_ok, ⟨q103_ok, ⟨q106_ok, ⟨q108_ok, ⟨q109_ok, ⟨q110_ok, ⟨q112_ok, ⟨q113_ok, ⟨q114_ok, ⟨q115_ok, ⟨q122_ok, ⟨q156_ok, ⟨q247_ok, ⟨q248_ok, ⟨q253_ok, trivial⟩⟩⟩⟩⟩⟩⟩⟩⟩⟩⟩⟩⟩⟩⟩⟩⟩⟩⟩⟩⟩⟩⟩⟩⟩ (by kernel_rfl)
end Go.Proofs.Ytjhdnpmojhkbjaa
/- Contracts as a list. No condition. -/
namespace Go.Proofs.Ytjhdnpmojhkbjaa
def B2 : List Ctr := B1
theorem B2_ok : CtrsOK Try.prog B2 := B1_ok
end Go.Proofs.Ytjhdnpmojhkbjaa
/- Contracts as a list. No condition. -/
namespace Go.Proofs.Ytjhdnpmojhkbjaa
def B3 : List Ctr := B2
theorem B3_ok : CtrsOK Try.prog B3 := B2_ok
end Go.Proofs.Ytjhdnpmojhkbjaa
/- Contracts as a list. No condition. -/
namespace Go.Proofs.Ytjhdnpmojhkbjaa
theorem WkL.rel {w : World} {ok : Nat → Prop} {h : AHeap} {L : Lay} {xs ys : List AV} {v : Value} (hw : WkL xs ys) (hr : Rel w ok h L (.agg (.gen xs)) v) : Rel w ok h L (.agg (.gen ys)) v := by
  obtain ⟨e1, e2⟩ := hw.spec
  cases hr with
  | agg _ us hx vs hl h1 hrr =>
    simp only [Row.elems] at hx
    subst hx
    refine .agg _ ys rfl vs (by rw [← e1]; exact hl) h1 (fun j u v hu hv => ?_)
    obtain ⟨q, q1, q2⟩ := e2 j u hu
    exact q2.rel (hrr j q v q1 hv)
inductive Wk2 : AV → AV → Prop
  | one {x y : AV} (h : Wk1 x y) : Wk2 x y
  | agg {xs ys : List AV} (h : WkL xs ys) : Wk2 (.agg (.gen xs)) (.agg (.gen ys))
theorem Wk2.rel {w : World} {ok : Nat → Prop} {h : AHeap} {L : Lay} {x y : AV} {v : Value} (hw : Wk2 x y) (hr : Rel w ok h L x v) : Rel w ok h L y v := by
  cases hw with
  | one h => exact h.rel hr
  | agg h => exact h.rel hr
def Wk2L : List AV → List AV → Prop
  | [], [] => True
  | x :: xs, y :: ys => Wk2 x y ∧ Wk2L xs ys
  | _, _ => False
theorem Wk2L.spec : ∀ {xs ys : List AV}, Wk2L xs ys → xs.length = ys.length ∧ ∀ (j : Nat) (y : AV), ys[j]? = some y → ∃ x, xs[j]? = some x ∧ Wk2 x y
  | [], [], _ => ⟨rfl, fun j y h => by simp at h⟩
  | x :: xs, y :: ys, h => by
    obtain ⟨h1, h2⟩ := h
    obtain ⟨e1, e2⟩ := Wk2L.spec h2
    refine ⟨by simp [e1], fun j z hz => ?_⟩
    cases j with
    | zero => simp at hz; subst hz; exact ⟨x, rfl, h1⟩
    | succ j => obtain ⟨q, q1, q2⟩ := e2 j z (by simpa using hz); exact ⟨q, by simpa using q1, q2⟩
theorem pure_mono {f : FuncId} {args : List AV} {x y : AV} {fr : Option Fresh} (h : Pure Try.prog f args x fr) (hw : ∀ {w : World} {ok : Nat → Prop} {hh : AHeap} {L : Lay} {v : Value}, Rel w ok hh L x v → Rel w ok hh L y v) : Pure Try.prog f args y fr := by
  intro w okA L vs hargs hok
  refine (h w okA L vs hargs hok).mono ?_
  rintro e w' ⟨x, L', rfl, hb, hp⟩
  refine ⟨x, L', rfl, hb, ?_⟩
  unfold PostC at hp ⊢
  split
  · rename_i hn; rw [hn] at hp; exact hw hp
  · rename_i hn; rw [hn] at hp; exact ⟨hp.1, hw hp.2⟩
def B4 : List Ctr := B3
theorem B4_ok : CtrsOK Try.prog B4 := B3_ok
end Go.Proofs.Ytjhdnpmojhkbjaa
/- Contracts as a list. No condition. -/
namespace Go.Proofs.Ytjhdnpmojhkbjaa
theorem awake_ok : Pure Try.prog 14 [] (.bool true) none := q254_ok
def k14 : Ctr := ⟨14, 0, fun _ a => match a with | [] => some (true, .bool true, none) | _ => none⟩
theorem k14_ok : k14.OK Try.prog := fun pa args r fr h => by
  simp only [k14] at h
  split at h
  · cases h
    exact awake_ok
  · cases h
def B5 : List Ctr := [k14] ++ B4
theorem B5_ok : CtrsOK Try.prog B5 := ⟨k14_ok, B4_ok⟩
end Go.Proofs.Ytjhdnpmojhkbjaa
/- Contracts as a list. No condition. -/
namespace Go.Proofs.Ytjhdnpmojhkbjaa
def bigB (x : Int) : Bool := decide (-9223372036854775807 ≤ x ∧ x ≤ 9223372036854775807)
theorem size70w_ok (n : Int) (h : bigB n = true) : Pure Try.prog 70 [.int .i64 n] (.int .i64 (sizeI n)) none :=
  start (f70e_at n) fun C hC => fin hC E0_ok (f70p0 std n) (by simp [bigB] at h ⊢; omega) rfl rfl
def k70w : Ctr := ⟨70, 0, fun _ a => match a with | [.int .i64 n] => some (decide (bigB n = true), .int .i64 (sizeI n), none) | _ => none⟩
theorem k70w_ok : k70w.OK Try.prog := fun pa args r fr h => by
  simp only [k70w] at h
  split at h
  · simp only [Option.some.injEq, Prod.mk.injEq, decide_eq_true_eq] at h
    obtain ⟨h0, rfl, rfl⟩ := h
    exact size70w_ok _ h0
  · cases h
def BC0 : List Ctr := [k70w] ++ B5
theorem BC0_ok : CtrsOK Try.prog BC0 := ⟨k70w_ok, B5_ok⟩
end Go.Proofs.Ytjhdnpmojhkbjaa
