/- Calls at given values. Printed by facts.py. -/
import Derived.Test.YtimmgjppippdiaaTb
import Derived.Test.YtimmgjppippdiaaXz
import Derived.KernelRfl
namespace Go.Proofs.Ytimmgjppippdiaa
set_option maxRecDepth 1000000
def q0 : Fact := ⟨94, [], (.agg (.gen [(.int .i64 2), (.int .i64 7), (.int .i64 5)])), none⟩
theorem q0_ok : Pure Try.prog q0.f q0.args q0.r q0.fr := fact_of (n := 100000) (l := []) follows tab_ok trivial (by kernel_rfl)
def q1 : Fact := ⟨95, [], (.row 0 0), (some ⟨3, 1, (.ints .i64 [(-1), (-1), 1, 1, (-1), (-1), 1, 1])⟩)⟩
theorem q1_ok : Pure Try.prog q1.f q1.args q1.r q1.fr := fact_of (n := 100000) (l := []) follows tab_ok trivial (by kernel_rfl)
def q2 : Fact := ⟨112, [(.int .i64 2), (.int .i64 1), (.int .i64 3)], (.bool true), none⟩
theorem q2_ok : Pure Try.prog q2.f q2.args q2.r q2.fr := fact_of (n := 100000) (l := []) follows tab_ok trivial (by kernel_rfl)
def q3 : Fact := ⟨112, [(.int .i64 7), (.int .i64 1), (.int .i64 7)], (.bool true), none⟩
theorem q3_ok : Pure Try.prog q3.f q3.args q3.r q3.fr := fact_of (n := 100000) (l := []) follows tab_ok trivial (by kernel_rfl)
def q4 : Fact := ⟨112, [(.int .i64 5), (.int .i64 1), (.int .i64 7)], (.bool true), none⟩
theorem q4_ok : Pure Try.prog q4.f q4.args q4.r q4.fr := fact_of (n := 100000) (l := []) follows tab_ok trivial (by kernel_rfl)
def q5 : Fact := ⟨164, [(.list (.ints .i64 [7, 5])), (.fn 150 [(.eptr (.int .i64 1) 0), (.eptr (.int .i64 7) 0)])], (.int .i64 (-1)), none⟩
theorem q5_ok : Pure Try.prog q5.f q5.args q5.r q5.fr := fact_of (n := 100000) (l := [q3, q4]) follows tab_ok ⟨q3_ok, ⟨q4_ok, trivial⟩⟩ (by kernel_rfl)
def q6 : Fact := ⟨149, [(.list (.ints .i64 [7, 5])), (.fn 150 [(.eptr (.int .i64 1) 0), (.eptr (.int .i64 7) 0)])], (.bool false), none⟩
theorem q6_ok : Pure Try.prog q6.f q6.args q6.r q6.fr := fact_of (n := 100000) (l := [q5]) follows tab_ok ⟨q5_ok, trivial⟩ (by kernel_rfl)
def q7 : Fact := ⟨111, [(.bool true), (.int .i64 2)], (.int .i64 0), none⟩
theorem q7_ok : Pure Try.prog q7.f q7.args q7.r q7.fr := fact_of (n := 100000) (l := []) follows tab_ok trivial (by kernel_rfl)
def q8 : Fact := ⟨103, [(.list (.ints .i64 [7, 5])), (.int .i64 1), (.int .i64 7)], (.int .i64 0), none⟩
theorem q8_ok : Pure Try.prog q8.f q8.args q8.r q8.fr := fact_of (n := 100000) (l := [q6, q7]) follows tab_ok ⟨q6_ok, ⟨q7_ok, trivial⟩⟩ (by kernel_rfl)
def q9 : Fact := ⟨57, [(.agg (.gen [(.int .i64 2), (.int .i64 7), (.int .i64 5)]))], (.int .i64 0), none⟩
theorem q9_ok : Pure Try.prog q9.f q9.args q9.r q9.fr := fact_of (n := 100000) (l := [q2, q8]) follows tab_ok ⟨q2_ok, ⟨q8_ok, trivial⟩⟩ (by kernel_rfl)
def q10 : Fact := ⟨111, [(.bool true), (.int .i64 10)], (.int .i64 0), none⟩
theorem q10_ok : Pure Try.prog q10.f q10.args q10.r q10.fr := fact_of (n := 100000) (l := []) follows tab_ok trivial (by kernel_rfl)
def q11 : Fact := ⟨111, [(.bool true), (.int .i64 8)], (.int .i64 0), none⟩
theorem q11_ok : Pure Try.prog q11.f q11.args q11.r q11.fr := fact_of (n := 100000) (l := []) follows tab_ok trivial (by kernel_rfl)
def q12 : Fact := ⟨112, [(.int .i64 (-1)), (.int .i64 (-7)), (.int .i64 7)], (.bool true), none⟩
theorem q12_ok : Pure Try.prog q12.f q12.args q12.r q12.fr := fact_of (n := 100000) (l := []) follows tab_ok trivial (by kernel_rfl)
def q13 : Fact := ⟨112, [(.int .i64 1), (.int .i64 (-7)), (.int .i64 7)], (.bool true), none⟩
theorem q13_ok : Pure Try.prog q13.f q13.args q13.r q13.fr := fact_of (n := 100000) (l := []) follows tab_ok trivial (by kernel_rfl)
def q14 : Fact := ⟨164, [(.list (.ints .i64 [(-1), (-1), 1, 1, (-1), (-1), 1, 1])), (.fn 150 [(.eptr (.int .i64 (-7)) 0), (.eptr (.int .i64 7) 0)])], (.int .i64 (-1)), none⟩
theorem q14_ok : Pure Try.prog q14.f q14.args q14.r q14.fr := fact_of (n := 100000) (l := [q12, q13]) follows tab_ok ⟨q12_ok, ⟨q13_ok, trivial⟩⟩ (by kernel_rfl)
def q15 : Fact := ⟨149, [(.list (.ints .i64 [(-1), (-1), 1, 1, (-1), (-1), 1, 1])), (.fn 150 [(.eptr (.int .i64 (-7)) 0), (.eptr (.int .i64 7) 0)])], (.bool false), none⟩
theorem q15_ok : Pure Try.prog q15.f q15.args q15.r q15.fr := fact_of (n := 100000) (l := [q14]) follows tab_ok ⟨q14_ok, trivial⟩ (by kernel_rfl)
def q16 : Fact := ⟨103, [(.list (.ints .i64 [(-1), (-1), 1, 1, (-1), (-1), 1, 1])), (.int .i64 (-7)), (.int .i64 7)], (.int .i64 0), none⟩
theorem q16_ok : Pure Try.prog q16.f q16.args q16.r q16.fr := fact_of (n := 100000) (l := [q15, q7]) follows tab_ok ⟨q15_ok, ⟨q7_ok, trivial⟩⟩ (by kernel_rfl)
def q17 : Fact := ⟨105, [(.list (.ints .i64 [0, 0, 0]))], (.int .i64 0), none⟩
theorem q17_ok : Pure Try.prog q17.f q17.args q17.r q17.fr := fact_of (n := 100000) (l := []) follows tab_ok trivial (by kernel_rfl)
def q18 : Fact := ⟨98, [(.agg (.gen [(.int .i64 2), (.int .i64 7), (.int .i64 5)])), (.list (.ints .i64 [(-1), (-1), 1, 1, (-1), (-1), 1, 1]))], (.int .i64 0), none⟩
theorem q18_ok : Pure Try.prog q18.f q18.args q18.r q18.fr := fact_of (n := 100000) (l := [q10, q11, q16, q17]) follows tab_ok ⟨q10_ok, ⟨q11_ok, ⟨q16_ok, ⟨q17_ok, trivial⟩⟩⟩⟩ (by kernel_rfl)
def q19 : Fact := ⟨126, [(.agg (.gen [(.int .i64 2), (.int .i64 7), (.int .i64 5), (.list (.ints .i64 [(-1), (-1), 1, 1, (-1), (-1), 1, 1]))]))], (.int .i64 4), none⟩
theorem q19_ok : Pure Try.prog q19.f q19.args q19.r q19.fr := fact_of (n := 100000) (l := []) follows tab_ok trivial (by kernel_rfl)
def q20 : Fact := ⟨127, [(.agg (.gen [(.int .i64 2), (.int .i64 7), (.int .i64 5), (.list (.ints .i64 [(-1), (-1), 1, 1, (-1), (-1), 1, 1]))]))], (.int .i64 4), none⟩
theorem q20_ok : Pure Try.prog q20.f q20.args q20.r q20.fr := fact_of (n := 100000) (l := []) follows tab_ok trivial (by kernel_rfl)
def q21 : Fact := ⟨169, [(.int .u64 1), (.int .u64 4)], (.tup [(.int .u64 0), (.int .u64 4)]), none⟩
theorem q21_ok : Pure Try.prog q21.f q21.args q21.r q21.fr := fact_of (n := 100000) (l := []) follows tab_ok trivial (by kernel_rfl)
def q22 : Fact := ⟨154, [(.int .u64 1), (.int .u64 4)], (.tup [(.int .u64 0), (.int .u64 4)]), none⟩
theorem q22_ok : Pure Try.prog q22.f q22.args q22.r q22.fr := fact_of (n := 100000) (l := [q21]) follows tab_ok ⟨q21_ok, trivial⟩ (by kernel_rfl)
def q23 : Fact := ⟨163, [(.list (.flts .f32 [3351465984])), (.int .i64 4)], (.row 0 0), (some ⟨143, 1, (.flts .f32 [3351465984, 3351465984, 3351465984, 3351465984])⟩)⟩
theorem q23_ok : Pure Try.prog q23.f q23.args q23.r q23.fr := fact_of (n := 100000) (l := [q22]) follows tab_ok ⟨q22_ok, trivial⟩ (by kernel_rfl)
def q24 : Fact := ⟨167, [(.int .u64 0)], (.int .i64 0), none⟩
theorem q24_ok : Pure Try.prog q24.f q24.args q24.r q24.fr := fact_of (n := 100000) (l := []) follows tab_ok trivial (by kernel_rfl)
def q25 : Fact := ⟨153, [(.int .u64 0)], (.int .i64 0), none⟩
theorem q25_ok : Pure Try.prog q25.f q25.args q25.r q25.fr := fact_of (n := 100000) (l := [q24]) follows tab_ok ⟨q24_ok, trivial⟩ (by kernel_rfl)
def q26 : Fact := ⟨121, [(.agg (.gen [(.int .i64 2), (.int .i64 7), (.int .i64 5)])), (.int .i64 0), (.int .i64 0)], (.tup [(.int .i64 0), (.agg (.ints .i64 [0, 0]))]), none⟩
theorem q26_ok : Pure Try.prog q26.f q26.args q26.r q26.fr := fact_of (n := 100000) (l := [q25]) follows tab_ok ⟨q25_ok, trivial⟩ (by kernel_rfl)
def q27 : Fact := ⟨125, [(.int .i64 0), (.int .i64 1)], (.int .i64 1), none⟩
theorem q27_ok : Pure Try.prog q27.f q27.args q27.r q27.fr := fact_of (n := 100000) (l := []) follows tab_ok trivial (by kernel_rfl)
def q28 : Fact := ⟨147, [(.agg (.gen [(.int .i64 2), (.int .i64 7), (.int .i64 5), (.list (.ints .i64 [(-1), (-1), 1, 1, (-1), (-1), 1, 1]))]))], (.int .i64 2), none⟩
theorem q28_ok : Pure Try.prog q28.f q28.args q28.r q28.fr := fact_of (n := 100000) (l := [q19]) follows tab_ok ⟨q19_ok, trivial⟩ (by kernel_rfl)
def q29 : Fact := ⟨167, [(.int .u64 1)], (.int .i64 1), none⟩
theorem q29_ok : Pure Try.prog q29.f q29.args q29.r q29.fr := fact_of (n := 100000) (l := []) follows tab_ok trivial (by kernel_rfl)
def q30 : Fact := ⟨153, [(.int .u64 1)], (.int .i64 1), none⟩
theorem q30_ok : Pure Try.prog q30.f q30.args q30.r q30.fr := fact_of (n := 100000) (l := [q29]) follows tab_ok ⟨q29_ok, trivial⟩ (by kernel_rfl)
def q31 : Fact := ⟨121, [(.agg (.gen [(.int .i64 2), (.int .i64 7), (.int .i64 5)])), (.int .i64 1), (.int .i64 0)], (.tup [(.int .i64 0), (.agg (.ints .i64 [1, 1]))]), none⟩
theorem q31_ok : Pure Try.prog q31.f q31.args q31.r q31.fr := fact_of (n := 100000) (l := [q30]) follows tab_ok ⟨q30_ok, trivial⟩ (by kernel_rfl)
def q32 : Fact := ⟨125, [(.int .i64 1), (.int .i64 1)], (.int .i64 (-1)), none⟩
theorem q32_ok : Pure Try.prog q32.f q32.args q32.r q32.fr := fact_of (n := 100000) (l := []) follows tab_ok trivial (by kernel_rfl)
def q33 : Fact := ⟨167, [(.int .u64 2)], (.int .i64 1), none⟩
theorem q33_ok : Pure Try.prog q33.f q33.args q33.r q33.fr := fact_of (n := 100000) (l := []) follows tab_ok trivial (by kernel_rfl)
def q34 : Fact := ⟨153, [(.int .u64 2)], (.int .i64 1), none⟩
theorem q34_ok : Pure Try.prog q34.f q34.args q34.r q34.fr := fact_of (n := 100000) (l := [q33]) follows tab_ok ⟨q33_ok, trivial⟩ (by kernel_rfl)
def q35 : Fact := ⟨121, [(.agg (.gen [(.int .i64 2), (.int .i64 7), (.int .i64 5)])), (.int .i64 2), (.int .i64 0)], (.tup [(.int .i64 1), (.agg (.ints .i64 [1, 0]))]), none⟩
theorem q35_ok : Pure Try.prog q35.f q35.args q35.r q35.fr := fact_of (n := 100000) (l := [q34, q25]) follows tab_ok ⟨q34_ok, ⟨q25_ok, trivial⟩⟩ (by kernel_rfl)
def q36 : Fact := ⟨167, [(.int .u64 3)], (.int .i64 2), none⟩
theorem q36_ok : Pure Try.prog q36.f q36.args q36.r q36.fr := fact_of (n := 100000) (l := []) follows tab_ok trivial (by kernel_rfl)
def q37 : Fact := ⟨153, [(.int .u64 3)], (.int .i64 2), none⟩
theorem q37_ok : Pure Try.prog q37.f q37.args q37.r q37.fr := fact_of (n := 100000) (l := [q36]) follows tab_ok ⟨q36_ok, trivial⟩ (by kernel_rfl)
def q38 : Fact := ⟨121, [(.agg (.gen [(.int .i64 2), (.int .i64 7), (.int .i64 5)])), (.int .i64 3), (.int .i64 0)], (.tup [(.int .i64 1), (.agg (.ints .i64 [0, 1]))]), none⟩
theorem q38_ok : Pure Try.prog q38.f q38.args q38.r q38.fr := fact_of (n := 100000) (l := [q37, q30]) follows tab_ok ⟨q37_ok, ⟨q30_ok, trivial⟩⟩ (by kernel_rfl)
def q39 : Fact := ⟨125, [(.int .i64 0), (.int .i64 (-1))], (.int .i64 (-1)), none⟩
theorem q39_ok : Pure Try.prog q39.f q39.args q39.r q39.fr := fact_of (n := 100000) (l := []) follows tab_ok trivial (by kernel_rfl)
def q40 : Fact := ⟨125, [(.int .i64 1), (.int .i64 (-1))], (.int .i64 1), none⟩
theorem q40_ok : Pure Try.prog q40.f q40.args q40.r q40.fr := fact_of (n := 100000) (l := []) follows tab_ok trivial (by kernel_rfl)
def q41 : Fact := ⟨167, [(.int .u64 4)], (.int .i64 1), none⟩
theorem q41_ok : Pure Try.prog q41.f q41.args q41.r q41.fr := fact_of (n := 100000) (l := []) follows tab_ok trivial (by kernel_rfl)
def q42 : Fact := ⟨153, [(.int .u64 4)], (.int .i64 1), none⟩
theorem q42_ok : Pure Try.prog q42.f q42.args q42.r q42.fr := fact_of (n := 100000) (l := [q41]) follows tab_ok ⟨q41_ok, trivial⟩ (by kernel_rfl)
def q43 : Fact := ⟨121, [(.agg (.gen [(.int .i64 2), (.int .i64 7), (.int .i64 5)])), (.int .i64 0), (.int .i64 1)], (.tup [(.int .i64 2), (.agg (.ints .i64 [1, 1]))]), none⟩
theorem q43_ok : Pure Try.prog q43.f q43.args q43.r q43.fr := fact_of (n := 100000) (l := [q42]) follows tab_ok ⟨q42_ok, trivial⟩ (by kernel_rfl)
def q44 : Fact := ⟨167, [(.int .u64 5)], (.int .i64 2), none⟩
theorem q44_ok : Pure Try.prog q44.f q44.args q44.r q44.fr := fact_of (n := 100000) (l := []) follows tab_ok trivial (by kernel_rfl)
def q45 : Fact := ⟨153, [(.int .u64 5)], (.int .i64 2), none⟩
theorem q45_ok : Pure Try.prog q45.f q45.args q45.r q45.fr := fact_of (n := 100000) (l := [q44]) follows tab_ok ⟨q44_ok, trivial⟩ (by kernel_rfl)
def q46 : Fact := ⟨121, [(.agg (.gen [(.int .i64 2), (.int .i64 7), (.int .i64 5)])), (.int .i64 1), (.int .i64 1)], (.tup [(.int .i64 2), (.agg (.ints .i64 [0, 0]))]), none⟩
theorem q46_ok : Pure Try.prog q46.f q46.args q46.r q46.fr := fact_of (n := 100000) (l := [q45]) follows tab_ok ⟨q45_ok, trivial⟩ (by kernel_rfl)
def q47 : Fact := ⟨167, [(.int .u64 6)], (.int .i64 2), none⟩
theorem q47_ok : Pure Try.prog q47.f q47.args q47.r q47.fr := fact_of (n := 100000) (l := []) follows tab_ok trivial (by kernel_rfl)
def q48 : Fact := ⟨153, [(.int .u64 6)], (.int .i64 2), none⟩
theorem q48_ok : Pure Try.prog q48.f q48.args q48.r q48.fr := fact_of (n := 100000) (l := [q47]) follows tab_ok ⟨q47_ok, trivial⟩ (by kernel_rfl)
def q49 : Fact := ⟨121, [(.agg (.gen [(.int .i64 2), (.int .i64 7), (.int .i64 5)])), (.int .i64 2), (.int .i64 1)], (.tup [(.int .i64 3), (.agg (.ints .i64 [0, 1]))]), none⟩
theorem q49_ok : Pure Try.prog q49.f q49.args q49.r q49.fr := fact_of (n := 100000) (l := [q48, q42]) follows tab_ok ⟨q48_ok, ⟨q42_ok, trivial⟩⟩ (by kernel_rfl)
def q50 : Fact := ⟨167, [(.int .u64 7)], (.int .i64 3), none⟩
theorem q50_ok : Pure Try.prog q50.f q50.args q50.r q50.fr := fact_of (n := 100000) (l := []) follows tab_ok trivial (by kernel_rfl)
def q51 : Fact := ⟨153, [(.int .u64 7)], (.int .i64 3), none⟩
theorem q51_ok : Pure Try.prog q51.f q51.args q51.r q51.fr := fact_of (n := 100000) (l := [q50]) follows tab_ok ⟨q50_ok, trivial⟩ (by kernel_rfl)
def q52 : Fact := ⟨121, [(.agg (.gen [(.int .i64 2), (.int .i64 7), (.int .i64 5)])), (.int .i64 3), (.int .i64 1)], (.tup [(.int .i64 3), (.agg (.ints .i64 [1, 0]))]), none⟩
theorem q52_ok : Pure Try.prog q52.f q52.args q52.r q52.fr := fact_of (n := 100000) (l := [q51, q45]) follows tab_ok ⟨q51_ok, ⟨q45_ok, trivial⟩⟩ (by kernel_rfl)
def q53 : Fact := ⟨99, [(.agg (.gen [(.int .i64 2), (.int .i64 7), (.int .i64 5), (.list (.ints .i64 [(-1), (-1), 1, 1, (-1), (-1), 1, 1]))]))], (.tup [(.row 0 0), (.int .i64 6)]), (some ⟨3, 1, (.ints .i64 [1, 0])⟩)⟩
theorem q53_ok : Pure Try.prog q53.f q53.args q53.r q53.fr := fact_of (n := 100000) (l := [q19, q20, q23, q26, q27, q28, q31, q32, q35, q38, q39, q40, q43, q46, q49, q52]) follows tab_ok ⟨q19_ok, ⟨q20_ok, ⟨q23_ok, ⟨q26_ok, ⟨q27_ok, ⟨q28_ok, ⟨q31_ok, ⟨q32_ok, ⟨q35_ok, ⟨q38_ok, ⟨q39_ok, ⟨q40_ok, ⟨q43_ok, ⟨q46_ok, ⟨q49_ok, ⟨q52_ok, trivial⟩⟩⟩⟩⟩⟩⟩⟩⟩⟩⟩⟩⟩⟩⟩⟩ (by kernel_rfl)
def q54 : Fact := ⟨19, [(.agg (.gen [(.int .i64 2), (.int .i64 7), (.int .i64 5)])), (.list (.ints .i64 [(-1), (-1), 1, 1, (-1), (-1), 1, 1]))], (.tup [(.row 0 0), (.int .i64 6), (.int .i64 0)]), (some ⟨3, 1, (.ints .i64 [1, 0])⟩)⟩
theorem q54_ok : Pure Try.prog q54.f q54.args q54.r q54.fr := fact_of (n := 100000) (l := [q9, q18, q53]) follows tab_ok ⟨q9_ok, ⟨q18_ok, ⟨q53_ok, trivial⟩⟩⟩ (by kernel_rfl)
def q55 : Fact := ⟨96, [(.int .i64 1)], (.row 0 0), (some ⟨3, 1, (.ints .i64 [0, 0, 0, 0, 0, 0, 0, 0, 0, 0, 0, 0, 1])⟩)⟩
theorem q55_ok : Pure Try.prog q55.f q55.args q55.r q55.fr := fact_of (n := 100000) (l := []) follows tab_ok trivial (by kernel_rfl)
def q56 : Fact := ⟨112, [(.int .i64 1), (.int .i64 1), (.int .i64 3)], (.bool true), none⟩
theorem q56_ok : Pure Try.prog q56.f q56.args q56.r q56.fr := fact_of (n := 100000) (l := []) follows tab_ok trivial (by kernel_rfl)
def q57 : Fact := ⟨106, [(.int .i64 1)], (.int .i64 0), none⟩
theorem q57_ok : Pure Try.prog q57.f q57.args q57.r q57.fr := fact_of (n := 100000) (l := [q56, q7]) follows tab_ok ⟨q56_ok, ⟨q7_ok, trivial⟩⟩ (by kernel_rfl)
def q58 : Fact := ⟨112, [(.int .i64 0), (.int .i64 0), (.int .i64 15)], (.bool true), none⟩
theorem q58_ok : Pure Try.prog q58.f q58.args q58.r q58.fr := fact_of (n := 100000) (l := []) follows tab_ok trivial (by kernel_rfl)
def q59 : Fact := ⟨112, [(.int .i64 1), (.int .i64 0), (.int .i64 15)], (.bool true), none⟩
theorem q59_ok : Pure Try.prog q59.f q59.args q59.r q59.fr := fact_of (n := 100000) (l := []) follows tab_ok trivial (by kernel_rfl)
def q60 : Fact := ⟨164, [(.list (.ints .i64 [0, 0, 0, 0, 0, 0, 0, 0, 0, 0, 0, 0, 1])), (.fn 150 [(.eptr (.int .i64 0) 0), (.eptr (.int .i64 15) 0)])], (.int .i64 (-1)), none⟩
theorem q60_ok : Pure Try.prog q60.f q60.args q60.r q60.fr := fact_of (n := 100000) (l := [q58, q59]) follows tab_ok ⟨q58_ok, ⟨q59_ok, trivial⟩⟩ (by kernel_rfl)
def q61 : Fact := ⟨149, [(.list (.ints .i64 [0, 0, 0, 0, 0, 0, 0, 0, 0, 0, 0, 0, 1])), (.fn 150 [(.eptr (.int .i64 0) 0), (.eptr (.int .i64 15) 0)])], (.bool false), none⟩
theorem q61_ok : Pure Try.prog q61.f q61.args q61.r q61.fr := fact_of (n := 100000) (l := [q60]) follows tab_ok ⟨q60_ok, trivial⟩ (by kernel_rfl)
def q62 : Fact := ⟨103, [(.list (.ints .i64 [0, 0, 0, 0, 0, 0, 0, 0, 0, 0, 0, 0, 1])), (.int .i64 0), (.int .i64 15)], (.int .i64 0), none⟩
theorem q62_ok : Pure Try.prog q62.f q62.args q62.r q62.fr := fact_of (n := 100000) (l := [q61, q7]) follows tab_ok ⟨q61_ok, ⟨q7_ok, trivial⟩⟩ (by kernel_rfl)
def q63 : Fact := ⟨105, [(.list (.ints .i64 [0, 0]))], (.int .i64 0), none⟩
theorem q63_ok : Pure Try.prog q63.f q63.args q63.r q63.fr := fact_of (n := 100000) (l := []) follows tab_ok trivial (by kernel_rfl)
def q64 : Fact := ⟨107, [(.list (.ints .i64 [0, 0, 0, 0, 0, 0, 0, 0, 0, 0, 0, 0, 1])), (.int .i64 13)], (.int .i64 0), none⟩
theorem q64_ok : Pure Try.prog q64.f q64.args q64.r q64.fr := fact_of (n := 100000) (l := [q10, q62, q63]) follows tab_ok ⟨q10_ok, ⟨q62_ok, ⟨q63_ok, trivial⟩⟩⟩ (by kernel_rfl)
def q65 : Fact := ⟨160, [(.int .i64 14)], (.int .i64 9), none⟩
theorem q65_ok : Pure Try.prog q65.f q65.args q65.r q65.fr := fact_of (n := 100000) (l := []) follows tab_ok trivial (by kernel_rfl)
def q66 : Fact := ⟨104, [(.int .i64 0), (.int .i64 9)], (.int .i64 0), none⟩
theorem q66_ok : Pure Try.prog q66.f q66.args q66.r q66.fr := fact_of (n := 100000) (l := []) follows tab_ok trivial (by kernel_rfl)
def q67 : Fact := ⟨160, [(.int .i64 13)], (.int .i64 13), none⟩
theorem q67_ok : Pure Try.prog q67.f q67.args q67.r q67.fr := fact_of (n := 100000) (l := []) follows tab_ok trivial (by kernel_rfl)
def q68 : Fact := ⟨104, [(.int .i64 0), (.int .i64 13)], (.int .i64 0), none⟩
theorem q68_ok : Pure Try.prog q68.f q68.args q68.r q68.fr := fact_of (n := 100000) (l := []) follows tab_ok trivial (by kernel_rfl)
def q69 : Fact := ⟨160, [(.int .i64 12)], (.int .i64 15), none⟩
theorem q69_ok : Pure Try.prog q69.f q69.args q69.r q69.fr := fact_of (n := 100000) (l := []) follows tab_ok trivial (by kernel_rfl)
def q70 : Fact := ⟨104, [(.int .i64 0), (.int .i64 15)], (.int .i64 0), none⟩
theorem q70_ok : Pure Try.prog q70.f q70.args q70.r q70.fr := fact_of (n := 100000) (l := []) follows tab_ok trivial (by kernel_rfl)
def q71 : Fact := ⟨160, [(.int .i64 11)], (.int .i64 14), none⟩
theorem q71_ok : Pure Try.prog q71.f q71.args q71.r q71.fr := fact_of (n := 100000) (l := []) follows tab_ok trivial (by kernel_rfl)
def q72 : Fact := ⟨104, [(.int .i64 0), (.int .i64 14)], (.int .i64 0), none⟩
theorem q72_ok : Pure Try.prog q72.f q72.args q72.r q72.fr := fact_of (n := 100000) (l := []) follows tab_ok trivial (by kernel_rfl)
def q73 : Fact := ⟨160, [(.int .i64 10)], (.int .i64 7), none⟩
theorem q73_ok : Pure Try.prog q73.f q73.args q73.r q73.fr := fact_of (n := 100000) (l := []) follows tab_ok trivial (by kernel_rfl)
def q74 : Fact := ⟨104, [(.int .i64 0), (.int .i64 7)], (.int .i64 0), none⟩
theorem q74_ok : Pure Try.prog q74.f q74.args q74.r q74.fr := fact_of (n := 100000) (l := []) follows tab_ok trivial (by kernel_rfl)
def q75 : Fact := ⟨160, [(.int .i64 9)], (.int .i64 10), none⟩
theorem q75_ok : Pure Try.prog q75.f q75.args q75.r q75.fr := fact_of (n := 100000) (l := []) follows tab_ok trivial (by kernel_rfl)
def q76 : Fact := ⟨104, [(.int .i64 0), (.int .i64 10)], (.int .i64 0), none⟩
theorem q76_ok : Pure Try.prog q76.f q76.args q76.r q76.fr := fact_of (n := 100000) (l := []) follows tab_ok trivial (by kernel_rfl)
def q77 : Fact := ⟨160, [(.int .i64 8)], (.int .i64 5), none⟩
theorem q77_ok : Pure Try.prog q77.f q77.args q77.r q77.fr := fact_of (n := 100000) (l := []) follows tab_ok trivial (by kernel_rfl)
def q78 : Fact := ⟨104, [(.int .i64 0), (.int .i64 5)], (.int .i64 0), none⟩
theorem q78_ok : Pure Try.prog q78.f q78.args q78.r q78.fr := fact_of (n := 100000) (l := []) follows tab_ok trivial (by kernel_rfl)
def q79 : Fact := ⟨160, [(.int .i64 7)], (.int .i64 11), none⟩
theorem q79_ok : Pure Try.prog q79.f q79.args q79.r q79.fr := fact_of (n := 100000) (l := []) follows tab_ok trivial (by kernel_rfl)
def q80 : Fact := ⟨104, [(.int .i64 0), (.int .i64 11)], (.int .i64 0), none⟩
theorem q80_ok : Pure Try.prog q80.f q80.args q80.r q80.fr := fact_of (n := 100000) (l := []) follows tab_ok trivial (by kernel_rfl)
def q81 : Fact := ⟨160, [(.int .i64 6)], (.int .i64 12), none⟩
theorem q81_ok : Pure Try.prog q81.f q81.args q81.r q81.fr := fact_of (n := 100000) (l := []) follows tab_ok trivial (by kernel_rfl)
def q82 : Fact := ⟨104, [(.int .i64 0), (.int .i64 12)], (.int .i64 0), none⟩
theorem q82_ok : Pure Try.prog q82.f q82.args q82.r q82.fr := fact_of (n := 100000) (l := []) follows tab_ok trivial (by kernel_rfl)
def q83 : Fact := ⟨160, [(.int .i64 5)], (.int .i64 6), none⟩
theorem q83_ok : Pure Try.prog q83.f q83.args q83.r q83.fr := fact_of (n := 100000) (l := []) follows tab_ok trivial (by kernel_rfl)
def q84 : Fact := ⟨104, [(.int .i64 0), (.int .i64 6)], (.int .i64 0), none⟩
theorem q84_ok : Pure Try.prog q84.f q84.args q84.r q84.fr := fact_of (n := 100000) (l := []) follows tab_ok trivial (by kernel_rfl)
def q85 : Fact := ⟨160, [(.int .i64 4)], (.int .i64 3), none⟩
theorem q85_ok : Pure Try.prog q85.f q85.args q85.r q85.fr := fact_of (n := 100000) (l := []) follows tab_ok trivial (by kernel_rfl)
def q86 : Fact := ⟨104, [(.int .i64 0), (.int .i64 3)], (.int .i64 0), none⟩
theorem q86_ok : Pure Try.prog q86.f q86.args q86.r q86.fr := fact_of (n := 100000) (l := []) follows tab_ok trivial (by kernel_rfl)
def q87 : Fact := ⟨160, [(.int .i64 3)], (.int .i64 8), none⟩
theorem q87_ok : Pure Try.prog q87.f q87.args q87.r q87.fr := fact_of (n := 100000) (l := []) follows tab_ok trivial (by kernel_rfl)
def q88 : Fact := ⟨104, [(.int .i64 0), (.int .i64 8)], (.int .i64 0), none⟩
theorem q88_ok : Pure Try.prog q88.f q88.args q88.r q88.fr := fact_of (n := 100000) (l := []) follows tab_ok trivial (by kernel_rfl)
def q89 : Fact := ⟨160, [(.int .i64 2)], (.int .i64 4), none⟩
theorem q89_ok : Pure Try.prog q89.f q89.args q89.r q89.fr := fact_of (n := 100000) (l := []) follows tab_ok trivial (by kernel_rfl)
def q90 : Fact := ⟨104, [(.int .i64 1), (.int .i64 4)], (.int .i64 4), none⟩
theorem q90_ok : Pure Try.prog q90.f q90.args q90.r q90.fr := fact_of (n := 100000) (l := []) follows tab_ok trivial (by kernel_rfl)
def q91 : Fact := ⟨160, [(.int .i64 1)], (.int .i64 2), none⟩
theorem q91_ok : Pure Try.prog q91.f q91.args q91.r q91.fr := fact_of (n := 100000) (l := []) follows tab_ok trivial (by kernel_rfl)
def q92 : Fact := ⟨104, [(.int .i64 0), (.int .i64 2)], (.int .i64 0), none⟩
theorem q92_ok : Pure Try.prog q92.f q92.args q92.r q92.fr := fact_of (n := 100000) (l := []) follows tab_ok trivial (by kernel_rfl)
def q93 : Fact := ⟨160, [(.int .i64 0)], (.int .i64 1), none⟩
theorem q93_ok : Pure Try.prog q93.f q93.args q93.r q93.fr := fact_of (n := 100000) (l := []) follows tab_ok trivial (by kernel_rfl)
def q94 : Fact := ⟨104, [(.int .i64 0), (.int .i64 1)], (.int .i64 0), none⟩
theorem q94_ok : Pure Try.prog q94.f q94.args q94.r q94.fr := fact_of (n := 100000) (l := []) follows tab_ok trivial (by kernel_rfl)
def q95 : Fact := ⟨151, [(.agg (.ints .i64 [0, 0, 0, 0, 0, 0, 0, 0, 0, 0, 0, 0, 1, 0, 0])), (.int .i64 1)], (.int .i64 4), none⟩
theorem q95_ok : Pure Try.prog q95.f q95.args q95.r q95.fr := fact_of (n := 100000) (l := [q65, q66, q67, q68, q69, q70, q71, q72, q73, q74, q75, q76, q77, q78, q79, q80, q81, q82, q83, q84, q85, q86, q87, q88, q89, q90, q91, q92, q93, q94]) follows tab_ok ⟨q65_ok, ⟨q66_ok, ⟨q67_ok, ⟨q68_ok, ⟨q69_ok, ⟨q70_ok, ⟨q71_ok, ⟨q72_ok, ⟨q73_ok, ⟨q74_ok, ⟨q75_ok, ⟨q76_ok, ⟨q77_ok, ⟨q78_ok, ⟨q79_ok, ⟨q80_ok, ⟨q81_ok, ⟨q82_ok, ⟨q83_ok, ⟨q84_ok, ⟨q85_ok, ⟨q86_ok, ⟨q87_ok, ⟨q88_ok, ⟨q89_ok, ⟨q90_ok, ⟨q91_ok, ⟨q92_ok, ⟨q93_ok, ⟨q94_ok, trivial⟩⟩⟩⟩⟩⟩⟩⟩⟩⟩⟩⟩⟩⟩⟩⟩⟩⟩⟩⟩⟩⟩⟩⟩⟩⟩⟩⟩⟩⟩ (by kernel_rfl)
def q96 : Fact := ⟨160, [(.int .i64 28)], (.int .i64 13), none⟩
theorem q96_ok : Pure Try.prog q96.f q96.args q96.r q96.fr := fact_of (n := 100000) (l := []) follows tab_ok trivial (by kernel_rfl)
def q97 : Fact := ⟨160, [(.int .i64 26)], (.int .i64 14), none⟩
theorem q97_ok : Pure Try.prog q97.f q97.args q97.r q97.fr := fact_of (n := 100000) (l := []) follows tab_ok trivial (by kernel_rfl)
def q98 : Fact := ⟨160, [(.int .i64 24)], (.int .i64 10), none⟩
theorem q98_ok : Pure Try.prog q98.f q98.args q98.r q98.fr := fact_of (n := 100000) (l := []) follows tab_ok trivial (by kernel_rfl)
def q99 : Fact := ⟨160, [(.int .i64 22)], (.int .i64 11), none⟩
theorem q99_ok : Pure Try.prog q99.f q99.args q99.r q99.fr := fact_of (n := 100000) (l := []) follows tab_ok trivial (by kernel_rfl)
def q100 : Fact := ⟨160, [(.int .i64 20)], (.int .i64 6), none⟩
theorem q100_ok : Pure Try.prog q100.f q100.args q100.r q100.fr := fact_of (n := 100000) (l := []) follows tab_ok trivial (by kernel_rfl)
def q101 : Fact := ⟨160, [(.int .i64 18)], (.int .i64 8), none⟩
theorem q101_ok : Pure Try.prog q101.f q101.args q101.r q101.fr := fact_of (n := 100000) (l := []) follows tab_ok trivial (by kernel_rfl)
def q102 : Fact := ⟨160, [(.int .i64 16)], (.int .i64 2), none⟩
theorem q102_ok : Pure Try.prog q102.f q102.args q102.r q102.fr := fact_of (n := 100000) (l := []) follows tab_ok trivial (by kernel_rfl)
def q103 : Fact := ⟨104, [(.int .i64 1), (.int .i64 3)], (.int .i64 3), none⟩
theorem q103_ok : Pure Try.prog q103.f q103.args q103.r q103.fr := fact_of (n := 100000) (l := []) follows tab_ok trivial (by kernel_rfl)
def q104 : Fact := ⟨104, [(.int .i64 0), (.int .i64 4)], (.int .i64 0), none⟩
theorem q104_ok : Pure Try.prog q104.f q104.args q104.r q104.fr := fact_of (n := 100000) (l := []) follows tab_ok trivial (by kernel_rfl)
def q105 : Fact := ⟨151, [(.agg (.ints .i64 [0, 0, 0, 0, 0, 0, 0, 0, 0, 0, 0, 0, 1, 0, 0])), (.int .i64 2)], (.int .i64 3), none⟩
theorem q105_ok : Pure Try.prog q105.f q105.args q105.r q105.fr := fact_of (n := 100000) (l := [q96, q68, q97, q72, q98, q76, q99, q80, q100, q84, q101, q88, q102, q92, q65, q66, q69, q70, q73, q74, q77, q78, q81, q82, q85, q103, q89, q104, q93, q94]) follows tab_ok ⟨q96_ok, ⟨q68_ok, ⟨q97_ok, ⟨q72_ok, ⟨q98_ok, ⟨q76_ok, ⟨q99_ok, ⟨q80_ok, ⟨q100_ok, ⟨q84_ok, ⟨q101_ok, ⟨q88_ok, ⟨q102_ok, ⟨q92_ok, ⟨q65_ok, ⟨q66_ok, ⟨q69_ok, ⟨q70_ok, ⟨q73_ok, ⟨q74_ok, ⟨q77_ok, ⟨q78_ok, ⟨q81_ok, ⟨q82_ok, ⟨q85_ok, ⟨q103_ok, ⟨q89_ok, ⟨q104_ok, ⟨q93_ok, ⟨q94_ok, trivial⟩⟩⟩⟩⟩⟩⟩⟩⟩⟩⟩⟩⟩⟩⟩⟩⟩⟩⟩⟩⟩⟩⟩⟩⟩⟩⟩⟩⟩⟩ (by kernel_rfl)
def q106 : Fact := ⟨108, [(.agg (.ints .i64 [0, 0, 0, 0, 0, 0, 0, 0, 0, 0, 0, 0, 1, 0, 0])), (.int .i64 1)], (.row 0 0), (some ⟨3, 1, (.ints .i64 [4, 3])⟩)⟩
theorem q106_ok : Pure Try.prog q106.f q106.args q106.r q106.fr := fact_of (n := 100000) (l := [q95, q105]) follows tab_ok ⟨q95_ok, ⟨q105_ok, trivial⟩⟩ (by kernel_rfl)
def q107 : Fact := ⟨104, [(.int .i64 1), (.int .i64 2)], (.int .i64 2), none⟩
theorem q107_ok : Pure Try.prog q107.f q107.args q107.r q107.fr := fact_of (n := 100000) (l := []) follows tab_ok trivial (by kernel_rfl)
def q108 : Fact := ⟨104, [(.int .i64 2), (.int .i64 2)], (.int .i64 4), none⟩
theorem q108_ok : Pure Try.prog q108.f q108.args q108.r q108.fr := fact_of (n := 100000) (l := []) follows tab_ok trivial (by kernel_rfl)
def q109 : Fact := ⟨174, [(.list (.gen [(.list (.ints .i64 [2, 1, 4])), (.list (.ints .i64 [4, 1, 3]))])), (.fn 175 [(.eptr (.int .i64 0) 0)])], (.int .i64 0), none⟩
theorem q109_ok : Pure Try.prog q109.f q109.args q109.r q109.fr := fact_of (n := 100000) (l := []) follows tab_ok trivial (by kernel_rfl)
def q110 : Fact := ⟨104, [(.int .i64 2), (.int .i64 1)], (.int .i64 2), none⟩
theorem q110_ok : Pure Try.prog q110.f q110.args q110.r q110.fr := fact_of (n := 100000) (l := []) follows tab_ok trivial (by kernel_rfl)
def q111 : Fact := ⟨104, [(.int .i64 2), (.int .i64 3)], (.int .i64 6), none⟩
theorem q111_ok : Pure Try.prog q111.f q111.args q111.r q111.fr := fact_of (n := 100000) (l := []) follows tab_ok trivial (by kernel_rfl)
def q112 : Fact := ⟨104, [(.int .i64 2), (.int .i64 4)], (.int .i64 8), none⟩
theorem q112_ok : Pure Try.prog q112.f q112.args q112.r q112.fr := fact_of (n := 100000) (l := []) follows tab_ok trivial (by kernel_rfl)
def q113 : Fact := ⟨104, [(.int .i64 2), (.int .i64 5)], (.int .i64 10), none⟩
theorem q113_ok : Pure Try.prog q113.f q113.args q113.r q113.fr := fact_of (n := 100000) (l := []) follows tab_ok trivial (by kernel_rfl)
def q114 : Fact := ⟨104, [(.int .i64 2), (.int .i64 6)], (.int .i64 12), none⟩
theorem q114_ok : Pure Try.prog q114.f q114.args q114.r q114.fr := fact_of (n := 100000) (l := []) follows tab_ok trivial (by kernel_rfl)
def q115 : Fact := ⟨104, [(.int .i64 2), (.int .i64 7)], (.int .i64 14), none⟩
theorem q115_ok : Pure Try.prog q115.f q115.args q115.r q115.fr := fact_of (n := 100000) (l := []) follows tab_ok trivial (by kernel_rfl)
def q116 : Fact := ⟨104, [(.int .i64 2), (.int .i64 8)], (.int .i64 3), none⟩
theorem q116_ok : Pure Try.prog q116.f q116.args q116.r q116.fr := fact_of (n := 100000) (l := []) follows tab_ok trivial (by kernel_rfl)
def q117 : Fact := ⟨104, [(.int .i64 2), (.int .i64 9)], (.int .i64 1), none⟩
theorem q117_ok : Pure Try.prog q117.f q117.args q117.r q117.fr := fact_of (n := 100000) (l := []) follows tab_ok trivial (by kernel_rfl)
def q118 : Fact := ⟨172, [(.int .i64 2)], (.int .i64 9), none⟩
theorem q118_ok : Pure Try.prog q118.f q118.args q118.r q118.fr := fact_of (n := 100000) (l := [q110, q108, q111, q112, q113, q114, q115, q116, q117]) follows tab_ok ⟨q110_ok, ⟨q108_ok, ⟨q111_ok, ⟨q112_ok, ⟨q113_ok, ⟨q114_ok, ⟨q115_ok, ⟨q116_ok, ⟨q117_ok, trivial⟩⟩⟩⟩⟩⟩⟩⟩⟩ (by kernel_rfl)
def q119 : Fact := ⟨104, [(.int .i64 1), (.int .i64 9)], (.int .i64 9), none⟩
theorem q119_ok : Pure Try.prog q119.f q119.args q119.r q119.fr := fact_of (n := 100000) (l := []) follows tab_ok trivial (by kernel_rfl)
def q120 : Fact := ⟨104, [(.int .i64 4), (.int .i64 9)], (.int .i64 2), none⟩
theorem q120_ok : Pure Try.prog q120.f q120.args q120.r q120.fr := fact_of (n := 100000) (l := []) follows tab_ok trivial (by kernel_rfl)
def q121 : Fact := ⟨104, [(.int .i64 9), (.int .i64 4)], (.int .i64 2), none⟩
theorem q121_ok : Pure Try.prog q121.f q121.args q121.r q121.fr := fact_of (n := 100000) (l := []) follows tab_ok trivial (by kernel_rfl)
def q122 : Fact := ⟨174, [(.list (.gen [(.list (.ints .i64 [0, 3, 11]))])), (.fn 175 [(.eptr (.int .i64 1) 0)])], (.int .i64 0), none⟩
theorem q122_ok : Pure Try.prog q122.f q122.args q122.r q122.fr := fact_of (n := 100000) (l := []) follows tab_ok trivial (by kernel_rfl)
def q123 : Fact := ⟨104, [(.int .i64 3), (.int .i64 1)], (.int .i64 3), none⟩
theorem q123_ok : Pure Try.prog q123.f q123.args q123.r q123.fr := fact_of (n := 100000) (l := []) follows tab_ok trivial (by kernel_rfl)
def q124 : Fact := ⟨104, [(.int .i64 3), (.int .i64 2)], (.int .i64 6), none⟩
theorem q124_ok : Pure Try.prog q124.f q124.args q124.r q124.fr := fact_of (n := 100000) (l := []) follows tab_ok trivial (by kernel_rfl)
def q125 : Fact := ⟨104, [(.int .i64 3), (.int .i64 3)], (.int .i64 5), none⟩
theorem q125_ok : Pure Try.prog q125.f q125.args q125.r q125.fr := fact_of (n := 100000) (l := []) follows tab_ok trivial (by kernel_rfl)
def q126 : Fact := ⟨104, [(.int .i64 3), (.int .i64 4)], (.int .i64 12), none⟩
theorem q126_ok : Pure Try.prog q126.f q126.args q126.r q126.fr := fact_of (n := 100000) (l := []) follows tab_ok trivial (by kernel_rfl)
def q127 : Fact := ⟨104, [(.int .i64 3), (.int .i64 5)], (.int .i64 15), none⟩
theorem q127_ok : Pure Try.prog q127.f q127.args q127.r q127.fr := fact_of (n := 100000) (l := []) follows tab_ok trivial (by kernel_rfl)
def q128 : Fact := ⟨104, [(.int .i64 3), (.int .i64 6)], (.int .i64 10), none⟩
theorem q128_ok : Pure Try.prog q128.f q128.args q128.r q128.fr := fact_of (n := 100000) (l := []) follows tab_ok trivial (by kernel_rfl)
def q129 : Fact := ⟨104, [(.int .i64 3), (.int .i64 7)], (.int .i64 9), none⟩
theorem q129_ok : Pure Try.prog q129.f q129.args q129.r q129.fr := fact_of (n := 100000) (l := []) follows tab_ok trivial (by kernel_rfl)
def q130 : Fact := ⟨104, [(.int .i64 3), (.int .i64 8)], (.int .i64 11), none⟩
theorem q130_ok : Pure Try.prog q130.f q130.args q130.r q130.fr := fact_of (n := 100000) (l := []) follows tab_ok trivial (by kernel_rfl)
def q131 : Fact := ⟨104, [(.int .i64 3), (.int .i64 9)], (.int .i64 8), none⟩
theorem q131_ok : Pure Try.prog q131.f q131.args q131.r q131.fr := fact_of (n := 100000) (l := []) follows tab_ok trivial (by kernel_rfl)
def q132 : Fact := ⟨104, [(.int .i64 3), (.int .i64 10)], (.int .i64 13), none⟩
theorem q132_ok : Pure Try.prog q132.f q132.args q132.r q132.fr := fact_of (n := 100000) (l := []) follows tab_ok trivial (by kernel_rfl)
def q133 : Fact := ⟨104, [(.int .i64 3), (.int .i64 11)], (.int .i64 14), none⟩
theorem q133_ok : Pure Try.prog q133.f q133.args q133.r q133.fr := fact_of (n := 100000) (l := []) follows tab_ok trivial (by kernel_rfl)
def q134 : Fact := ⟨104, [(.int .i64 3), (.int .i64 12)], (.int .i64 7), none⟩
theorem q134_ok : Pure Try.prog q134.f q134.args q134.r q134.fr := fact_of (n := 100000) (l := []) follows tab_ok trivial (by kernel_rfl)
def q135 : Fact := ⟨104, [(.int .i64 3), (.int .i64 13)], (.int .i64 4), none⟩
theorem q135_ok : Pure Try.prog q135.f q135.args q135.r q135.fr := fact_of (n := 100000) (l := []) follows tab_ok trivial (by kernel_rfl)
def q136 : Fact := ⟨104, [(.int .i64 3), (.int .i64 14)], (.int .i64 1), none⟩
theorem q136_ok : Pure Try.prog q136.f q136.args q136.r q136.fr := fact_of (n := 100000) (l := []) follows tab_ok trivial (by kernel_rfl)
def q137 : Fact := ⟨172, [(.int .i64 3)], (.int .i64 14), none⟩
theorem q137_ok : Pure Try.prog q137.f q137.args q137.r q137.fr := fact_of (n := 100000) (l := [q123, q124, q125, q126, q127, q128, q129, q130, q131, q132, q133, q134, q135, q136]) follows tab_ok ⟨q123_ok, ⟨q124_ok, ⟨q125_ok, ⟨q126_ok, ⟨q127_ok, ⟨q128_ok, ⟨q129_ok, ⟨q130_ok, ⟨q131_ok, ⟨q132_ok, ⟨q133_ok, ⟨q134_ok, ⟨q135_ok, ⟨q136_ok, trivial⟩⟩⟩⟩⟩⟩⟩⟩⟩⟩⟩⟩⟩⟩ (by kernel_rfl)
def q138 : Fact := ⟨104, [(.int .i64 11), (.int .i64 14)], (.int .i64 8), none⟩
theorem q138_ok : Pure Try.prog q138.f q138.args q138.r q138.fr := fact_of (n := 100000) (l := []) follows tab_ok trivial (by kernel_rfl)
def q139 : Fact := ⟨104, [(.int .i64 8), (.int .i64 9)], (.int .i64 4), none⟩
theorem q139_ok : Pure Try.prog q139.f q139.args q139.r q139.fr := fact_of (n := 100000) (l := []) follows tab_ok trivial (by kernel_rfl)
def q140 : Fact := ⟨140, [(.agg (.ints .i64 [0, 0, 0, 0, 0, 0, 0, 0, 0, 0, 0, 0, 1, 0, 0])), (.int .i64 1), (.list (.ints .i64 [13, 14]))], (.tup [(.agg (.ints .i64 [0, 0, 0, 0, 0, 0, 0, 0, 0, 0, 0, 0, 1, 6, 8])), (.bool true)]), none⟩
theorem q140_ok : Pure Try.prog q140.f q140.args q140.r q140.fr := fact_of (n := 100000) (l := [q106, q91, q93, q89, q109, q118, q117, q119, q120, q90, q121, q112, q122, q137, q72, q136, q138, q66, q139]) follows tab_ok ⟨q106_ok, ⟨q91_ok, ⟨q93_ok, ⟨q89_ok, ⟨q109_ok, ⟨q118_ok, ⟨q117_ok, ⟨q119_ok, ⟨q120_ok, ⟨q90_ok, ⟨q121_ok, ⟨q112_ok, ⟨q122_ok, ⟨q137_ok, ⟨q72_ok, ⟨q136_ok, ⟨q138_ok, ⟨q66_ok, ⟨q139_ok, trivial⟩⟩⟩⟩⟩⟩⟩⟩⟩⟩⟩⟩⟩⟩⟩⟩⟩⟩⟩ (by kernel_rfl)
def q141 : Fact := ⟨109, [(.int .i64 1), (.list (.ints .i64 [0, 0, 0, 0, 0, 0, 0, 0, 0, 0, 0, 0, 1]))], (.agg (.ints .i64 [0, 0, 0, 0, 0, 0, 0, 0, 0, 0, 0, 0, 1, 6, 8])), none⟩
theorem q141_ok : Pure Try.prog q141.f q141.args q141.r q141.fr := fact_of (n := 100000) (l := [q140]) follows tab_ok ⟨q140_ok, trivial⟩ (by kernel_rfl)
def q142 : Fact := ⟨104, [(.int .i64 4), (.int .i64 2)], (.int .i64 8), none⟩
theorem q142_ok : Pure Try.prog q142.f q142.args q142.r q142.fr := fact_of (n := 100000) (l := []) follows tab_ok trivial (by kernel_rfl)
def q143 : Fact := ⟨104, [(.int .i64 8), (.int .i64 2)], (.int .i64 3), none⟩
theorem q143_ok : Pure Try.prog q143.f q143.args q143.r q143.fr := fact_of (n := 100000) (l := []) follows tab_ok trivial (by kernel_rfl)
def q144 : Fact := ⟨104, [(.int .i64 6), (.int .i64 2)], (.int .i64 12), none⟩
theorem q144_ok : Pure Try.prog q144.f q144.args q144.r q144.fr := fact_of (n := 100000) (l := []) follows tab_ok trivial (by kernel_rfl)
def q145 : Fact := ⟨104, [(.int .i64 12), (.int .i64 2)], (.int .i64 11), none⟩
theorem q145_ok : Pure Try.prog q145.f q145.args q145.r q145.fr := fact_of (n := 100000) (l := []) follows tab_ok trivial (by kernel_rfl)
def q146 : Fact := ⟨104, [(.int .i64 11), (.int .i64 2)], (.int .i64 5), none⟩
theorem q146_ok : Pure Try.prog q146.f q146.args q146.r q146.fr := fact_of (n := 100000) (l := []) follows tab_ok trivial (by kernel_rfl)
def q147 : Fact := ⟨104, [(.int .i64 5), (.int .i64 2)], (.int .i64 10), none⟩
theorem q147_ok : Pure Try.prog q147.f q147.args q147.r q147.fr := fact_of (n := 100000) (l := []) follows tab_ok trivial (by kernel_rfl)
def q148 : Fact := ⟨104, [(.int .i64 10), (.int .i64 2)], (.int .i64 7), none⟩
theorem q148_ok : Pure Try.prog q148.f q148.args q148.r q148.fr := fact_of (n := 100000) (l := []) follows tab_ok trivial (by kernel_rfl)
def q149 : Fact := ⟨104, [(.int .i64 7), (.int .i64 2)], (.int .i64 14), none⟩
theorem q149_ok : Pure Try.prog q149.f q149.args q149.r q149.fr := fact_of (n := 100000) (l := []) follows tab_ok trivial (by kernel_rfl)
def q150 : Fact := ⟨104, [(.int .i64 14), (.int .i64 2)], (.int .i64 15), none⟩
theorem q150_ok : Pure Try.prog q150.f q150.args q150.r q150.fr := fact_of (n := 100000) (l := []) follows tab_ok trivial (by kernel_rfl)
def q151 : Fact := ⟨104, [(.int .i64 15), (.int .i64 2)], (.int .i64 13), none⟩
theorem q151_ok : Pure Try.prog q151.f q151.args q151.r q151.fr := fact_of (n := 100000) (l := []) follows tab_ok trivial (by kernel_rfl)
def q152 : Fact := ⟨104, [(.int .i64 13), (.int .i64 2)], (.int .i64 9), none⟩
theorem q152_ok : Pure Try.prog q152.f q152.args q152.r q152.fr := fact_of (n := 100000) (l := []) follows tab_ok trivial (by kernel_rfl)
def q153 : Fact := ⟨112, [(.int .i64 3), (.int .i64 1), (.int .i64 24)], (.bool true), none⟩
theorem q153_ok : Pure Try.prog q153.f q153.args q153.r q153.fr := fact_of (n := 100000) (l := []) follows tab_ok trivial (by kernel_rfl)
def q154 : Fact := ⟨112, [(.int .i64 0), (.int .i64 0), (.int .i64 2)], (.bool true), none⟩
theorem q154_ok : Pure Try.prog q154.f q154.args q154.r q154.fr := fact_of (n := 100000) (l := []) follows tab_ok trivial (by kernel_rfl)
def q155 : Fact := ⟨111, [(.bool true), (.int .i64 6)], (.int .i64 0), none⟩
theorem q155_ok : Pure Try.prog q155.f q155.args q155.r q155.fr := fact_of (n := 100000) (l := []) follows tab_ok trivial (by kernel_rfl)
def q156 : Fact := ⟨111, [(.bool true), (.int .i64 9)], (.int .i64 0), none⟩
theorem q156_ok : Pure Try.prog q156.f q156.args q156.r q156.fr := fact_of (n := 100000) (l := []) follows tab_ok trivial (by kernel_rfl)
def q157 : Fact := ⟨112, [(.int .i64 1), (.int .i64 0), (.int .i64 2)], (.bool true), none⟩
theorem q157_ok : Pure Try.prog q157.f q157.args q157.r q157.fr := fact_of (n := 100000) (l := []) follows tab_ok trivial (by kernel_rfl)
def q158 : Fact := ⟨112, [(.int .i64 2), (.int .i64 0), (.int .i64 2)], (.bool true), none⟩
theorem q158_ok : Pure Try.prog q158.f q158.args q158.r q158.fr := fact_of (n := 100000) (l := []) follows tab_ok trivial (by kernel_rfl)
def q159 : Fact := ⟨35, [(.agg (.gen [(.int .i64 3), (.list (.gen [(.list (.ints .i64 [0, 1])), (.list (.ints .i64 [1, 2]))]))]))], (.tup [(.int .i64 0), (.int .i64 0)]), none⟩
theorem q159_ok : Pure Try.prog q159.f q159.args q159.r q159.fr := fact_of (n := 100000) (l := [q153, q7, q11, q63, q154, q155, q156, q157, q158]) follows tab_ok ⟨q153_ok, ⟨q7_ok, ⟨q11_ok, ⟨q63_ok, ⟨q154_ok, ⟨q155_ok, ⟨q156_ok, ⟨q157_ok, ⟨q158_ok, trivial⟩⟩⟩⟩⟩⟩⟩⟩⟩ (by kernel_rfl)
def q160 : Fact := ⟨133, [(.agg (.gen [(.int .i64 3), (.list (.gen [(.list (.ints .i64 [0, 1])), (.list (.ints .i64 [1, 2]))]))]))], (.int .i64 0), none⟩
theorem q160_ok : Pure Try.prog q160.f q160.args q160.r q160.fr := fact_of (n := 100000) (l := [q159]) follows tab_ok ⟨q159_ok, trivial⟩ (by kernel_rfl)
def q161 : Fact := ⟨112, [(.int .i64 1), (.int .i64 0), (.int .i64 1)], (.bool true), none⟩
theorem q161_ok : Pure Try.prog q161.f q161.args q161.r q161.fr := fact_of (n := 100000) (l := []) follows tab_ok trivial (by kernel_rfl)
def q162 : Fact := ⟨112, [(.int .i64 0), (.int .i64 0), (.int .i64 1)], (.bool true), none⟩
theorem q162_ok : Pure Try.prog q162.f q162.args q162.r q162.fr := fact_of (n := 100000) (l := []) follows tab_ok trivial (by kernel_rfl)
def q163 : Fact := ⟨164, [(.list (.ints .i64 [1, 0, 0])), (.fn 150 [(.eptr (.int .i64 0) 0), (.eptr (.int .i64 1) 0)])], (.int .i64 (-1)), none⟩
theorem q163_ok : Pure Try.prog q163.f q163.args q163.r q163.fr := fact_of (n := 100000) (l := [q161, q162]) follows tab_ok ⟨q161_ok, ⟨q162_ok, trivial⟩⟩ (by kernel_rfl)
def q164 : Fact := ⟨149, [(.list (.ints .i64 [1, 0, 0])), (.fn 150 [(.eptr (.int .i64 0) 0), (.eptr (.int .i64 1) 0)])], (.bool false), none⟩
theorem q164_ok : Pure Try.prog q164.f q164.args q164.r q164.fr := fact_of (n := 100000) (l := [q163]) follows tab_ok ⟨q163_ok, trivial⟩ (by kernel_rfl)
def q165 : Fact := ⟨103, [(.list (.ints .i64 [1, 0, 0])), (.int .i64 0), (.int .i64 1)], (.int .i64 0), none⟩
theorem q165_ok : Pure Try.prog q165.f q165.args q165.r q165.fr := fact_of (n := 100000) (l := [q164, q7]) follows tab_ok ⟨q164_ok, ⟨q7_ok, trivial⟩⟩ (by kernel_rfl)
def q166 : Fact := ⟨114, [(.agg (.gen [(.int .i64 3), (.list (.gen [(.list (.ints .i64 [0, 1])), (.list (.ints .i64 [1, 2]))]))])), (.list (.ints .i64 [1, 0, 0]))], (.int .i64 0), none⟩
theorem q166_ok : Pure Try.prog q166.f q166.args q166.r q166.fr := fact_of (n := 100000) (l := [q160, q10, q165, q17]) follows tab_ok ⟨q160_ok, ⟨q10_ok, ⟨q165_ok, ⟨q17_ok, trivial⟩⟩⟩⟩ (by kernel_rfl)
def q167 : Fact := ⟨112, [(.int .i64 5), (.int .i64 0), (.int .i64 30)], (.bool true), none⟩
theorem q167_ok : Pure Try.prog q167.f q167.args q167.r q167.fr := fact_of (n := 100000) (l := []) follows tab_ok trivial (by kernel_rfl)
def q168 : Fact := ⟨129, [(.list (.ints .i64 [1, 0, 0]))], (.row 0 0), (some ⟨3, 1, (.ints .i64 [1, 0, 0])⟩)⟩
theorem q168_ok : Pure Try.prog q168.f q168.args q168.r q168.fr := fact_of (n := 100000) (l := []) follows tab_ok trivial (by kernel_rfl)
def q169 : Fact := ⟨115, [(.agg (.gen [(.int .i64 3), (.list (.gen [(.list (.ints .i64 [0, 1])), (.list (.ints .i64 [1, 2]))]))])), (.list (.ints .i64 [1, 0, 0]))], (.row 0 0), (some ⟨3, 1, (.ints .i64 [0])⟩)⟩
theorem q169_ok : Pure Try.prog q169.f q169.args q169.r q169.fr := fact_of (n := 100000) (l := []) follows tab_ok trivial (by kernel_rfl)
def q170 : Fact := ⟨165, [(.list (.ints .i64 [0])), (.int .i64 0)], (.int .i64 0), none⟩
theorem q170_ok : Pure Try.prog q170.f q170.args q170.r q170.fr := fact_of (n := 100000) (l := []) follows tab_ok trivial (by kernel_rfl)
def q171 : Fact := ⟨152, [(.list (.ints .i64 [0])), (.int .i64 0)], (.bool true), none⟩
theorem q171_ok : Pure Try.prog q171.f q171.args q171.r q171.fr := fact_of (n := 100000) (l := [q170]) follows tab_ok ⟨q170_ok, trivial⟩ (by kernel_rfl)
def q172 : Fact := ⟨165, [(.list (.ints .i64 [0])), (.int .i64 1)], (.int .i64 (-1)), none⟩
theorem q172_ok : Pure Try.prog q172.f q172.args q172.r q172.fr := fact_of (n := 100000) (l := []) follows tab_ok trivial (by kernel_rfl)
def q173 : Fact := ⟨152, [(.list (.ints .i64 [0])), (.int .i64 1)], (.bool false), none⟩
theorem q173_ok : Pure Try.prog q173.f q173.args q173.r q173.fr := fact_of (n := 100000) (l := [q172]) follows tab_ok ⟨q172_ok, trivial⟩ (by kernel_rfl)
def q174 : Fact := ⟨116, [(.agg (.gen [(.int .i64 3), (.list (.gen [(.list (.ints .i64 [0, 1])), (.list (.ints .i64 [1, 2]))]))])), (.list (.ints .i64 [1, 0, 0]))], (.row 0 0), (some ⟨3, 1, (.ints .i64 [0, 0, 0])⟩)⟩
theorem q174_ok : Pure Try.prog q174.f q174.args q174.r q174.fr := fact_of (n := 100000) (l := [q169, q171, q173, q168]) follows tab_ok ⟨q169_ok, ⟨q171_ok, ⟨q173_ok, ⟨q168_ok, trivial⟩⟩⟩⟩ (by kernel_rfl)
def q175 : Fact := ⟨115, [(.agg (.gen [(.int .i64 3), (.list (.gen [(.list (.ints .i64 [0, 1])), (.list (.ints .i64 [1, 2]))]))])), (.list (.ints .i64 [0, 0, 0]))], .nils, none⟩
theorem q175_ok : Pure Try.prog q175.f q175.args q175.r q175.fr := fact_of (n := 100000) (l := []) follows tab_ok trivial (by kernel_rfl)
def q176 : Fact := ⟨67, [(.agg (.gen [(.int .i64 3), (.list (.gen [(.list (.ints .i64 [0, 1])), (.list (.ints .i64 [1, 2]))]))])), (.list (.ints .i64 [1, 0, 0])), (.int .i64 5)], (.tup [(.row 0 0), (.int .i64 1), (.int .i64 0)]), (some ⟨3, 1, (.ints .i64 [0, 0, 0])⟩)⟩
theorem q176_ok : Pure Try.prog q176.f q176.args q176.r q176.fr := fact_of (n := 100000) (l := [q166, q167, q7, q63, q168, q169, q174, q175]) follows tab_ok ⟨q166_ok, ⟨q167_ok, ⟨q7_ok, ⟨q63_ok, ⟨q168_ok, ⟨q169_ok, ⟨q174_ok, ⟨q175_ok, trivial⟩⟩⟩⟩⟩⟩⟩⟩ (by kernel_rfl)
def q177 : Fact := ⟨122, [(.list (.ints .i64 [100000])), (.int .i64 4)], (.row 0 0), (some ⟨3, 1, (.ints .i64 [100000, 100000, 100000, 100000])⟩)⟩
theorem q177_ok : Pure Try.prog q177.f q177.args q177.r q177.fr := fact_of (n := 100000) (l := [q22]) follows tab_ok ⟨q22_ok, trivial⟩ (by kernel_rfl)
def q178 : Fact := ⟨47, [(.agg (.gen [(.int .i64 2), (.int .i64 7), (.int .i64 5)]))], (.tup [(.int .i64 5), (.int .i64 0)]), none⟩
theorem q178_ok : Pure Try.prog q178.f q178.args q178.r q178.fr := fact_of (n := 100000) (l := [q9, q177, q43, q31, q46, q35, q49, q38, q52]) follows tab_ok ⟨q9_ok, ⟨q177_ok, ⟨q43_ok, ⟨q31_ok, ⟨q46_ok, ⟨q35_ok, ⟨q49_ok, ⟨q38_ok, ⟨q52_ok, trivial⟩⟩⟩⟩⟩⟩⟩⟩⟩ (by kernel_rfl)
def q179 : Fact := ⟨23, [(.list (.ints .i64 [1, 0])), (.list (.ints .i64 [1, 0]))], (.bool true), none⟩
theorem q179_ok : Pure Try.prog q179.f q179.args q179.r q179.fr := fact_of (n := 100000) (l := []) follows tab_ok trivial (by kernel_rfl)
def q180 : Fact := ⟨23, [(.list (.ints .i64 [0, 0, 0])), (.list (.ints .i64 [0, 0, 0]))], (.bool true), none⟩
theorem q180_ok : Pure Try.prog q180.f q180.args q180.r q180.fr := fact_of (n := 100000) (l := []) follows tab_ok trivial (by kernel_rfl)
def q181 : Fact := ⟨18, [], (.bool true), none⟩
theorem q181_ok : Pure Try.prog q181.f q181.args q181.r q181.fr := fact_of (n := 100000) (l := [q0, q1, q54, q55, q57, q64, q63, q141, q176, q178, q179, q180]) follows tab_ok ⟨q0_ok, ⟨q1_ok, ⟨q54_ok, ⟨q55_ok, ⟨q57_ok, ⟨q64_ok, ⟨q63_ok, ⟨q141_ok, ⟨q176_ok, ⟨q178_ok, ⟨q179_ok, ⟨q180_ok, trivial⟩⟩⟩⟩⟩⟩⟩⟩⟩⟩⟩⟩ (by kernel_rfl)
end Go.Proofs.Ytimmgjppippdiaa
