/- Calls at given values. Printed by facts.py. -/
import Derived.Test.YtjhdnpmojhkbjaaA1
import Derived.KernelRfl
namespace Go.Proofs.Ytjhdnpmojhkbjaa
set_option maxRecDepth 1000000
def iN (n : Int) : AV := .int .i64 n
def Fact.ok (q : Fact) : Prop := ZaI Try.prog q.f q.args q.r q.fr
theorem fct {q : Fact} (l : List Fact) (h : Zjo Try.prog l) (hk : ZGs Zno tab (Zzn l) 100000 q.f q.args = some (true, q.r, q.fr)) : q.ok := Zxu follows Ziv h hk
def q0 : Fact := ⟨86, [(.bool true), (iN 10)], (iN 0), none⟩
theorem ZnZ : q0.ok := fct [] trivial (by kernel_rfl)
def q1 : Fact := ⟨86, [(.bool true), (iN 8)], (iN 0), none⟩
theorem Znv : q1.ok := fct [] trivial (by kernel_rfl)
def q2 : Fact := ⟨87, [(iN 1), (iN 0), (iN 255)], (.bool true), none⟩
theorem ZJa : q2.ok := fct [] trivial (by kernel_rfl)
def q3 : Fact := ⟨93, [(iN 1)], (.bool true), none⟩
theorem ZBn : q3.ok := fct [q2] ⟨ZJa, trivial⟩ (by kernel_rfl)
def q4 : Fact := ⟨86, [(.bool true), (iN 2)], (iN 0), none⟩
theorem Zfs : q4.ok := fct [] trivial (by kernel_rfl)
def q5 : Fact := ⟨128, [(iN 1)], (iN 0), none⟩
theorem Zsr : q5.ok := fct [q3, q4] ⟨ZBn, Zfs, trivial⟩ (by kernel_rfl)
def q6 : Fact := ⟨87, [(iN 5), (iN 0), (iN 255)], (.bool true), none⟩
theorem ZJt : q6.ok := fct [] trivial (by kernel_rfl)
def q7 : Fact := ⟨93, [(iN 5)], (.bool true), none⟩
theorem ZGV : q7.ok := fct [q6] ⟨ZJt, trivial⟩ (by kernel_rfl)
def q8 : Fact := ⟨128, [(iN 5)], (iN 0), none⟩
theorem ZIm : q8.ok := fct [q7, q4] ⟨ZGV, Zfs, trivial⟩ (by kernel_rfl)
def q9 : Fact := ⟨87, [(iN 0), (iN 0), (iN 255)], (.bool true), none⟩
theorem ZJl : q9.ok := fct [] trivial (by kernel_rfl)
def q10 : Fact := ⟨93, [(iN 0)], (.bool true), none⟩
theorem Zul : q10.ok := fct [q9] ⟨ZJl, trivial⟩ (by kernel_rfl)
def q11 : Fact := ⟨128, [(iN 0)], (iN 0), none⟩
theorem ZqN : q11.ok := fct [q10, q4] ⟨Zul, Zfs, trivial⟩ (by kernel_rfl)
def q12 : Fact := ⟨87, [(iN 7), (iN 0), (iN 255)], (.bool true), none⟩
theorem ZFg : q12.ok := fct [] trivial (by kernel_rfl)
def q13 : Fact := ⟨93, [(iN 7)], (.bool true), none⟩
theorem ZBg : q13.ok := fct [q12] ⟨ZFg, trivial⟩ (by kernel_rfl)
def q14 : Fact := ⟨128, [(iN 7)], (iN 0), none⟩
theorem ZEE : q14.ok := fct [q13, q4] ⟨ZBg, Zfs, trivial⟩ (by kernel_rfl)
def q15 : Fact := ⟨87, [(iN 255), (iN 0), (iN 255)], (.bool true), none⟩
theorem ZAG : q15.ok := fct [] trivial (by kernel_rfl)
def q16 : Fact := ⟨93, [(iN 255)], (.bool true), none⟩
theorem ZD8 : q16.ok := fct [q15] ⟨ZAG, trivial⟩ (by kernel_rfl)
def q17 : Fact := ⟨128, [(iN 255)], (iN 0), none⟩
theorem Zuz : q17.ok := fct [q16, q4] ⟨ZD8, Zfs, trivial⟩ (by kernel_rfl)
def q18 : Fact := ⟨127, [(.list (.ints .i64 [1, 5, 0, 7, 0, 0, 255])), (.fn 128 [])], (iN 0), none⟩
theorem ZC7 : q18.ok := fct [q5, q8, q11, q14, q17] ⟨Zsr, ZIm, ZqN, ZEE, Zuz, trivial⟩ (by kernel_rfl)
def q19 : Fact := ⟨94, [(.list (.ints .i64 [1, 5, 0, 7, 0, 0, 255]))], (iN 0), none⟩
theorem ZDN : q19.ok := fct [q18] ⟨ZC7, trivial⟩ (by kernel_rfl)
def q20 : Fact := ⟨84, [(.list (.ints .i64 [0, 0, 0]))], (iN 0), none⟩
theorem ZjZ : q20.ok := fct [] trivial (by kernel_rfl)
def q21 : Fact := ⟨109, [(.list (.ints .i64 [1, 5, 0, 7, 0, 0, 255]))], (.agg (.ints .i64 [18, 76])), none⟩
theorem ZFW : q21.ok := fct [] trivial (by kernel_rfl)
def q22 : Fact := ⟨60, [(.list (.ints .i64 [1, 5, 0, 7, 0, 0, 255]))], (.tup [(iN 4684), (iN 0)]), none⟩
theorem ZCP : q22.ok := fct [q0, q1, q19, q20, q21] ⟨ZnZ, Znv, ZDN, ZjZ, ZFW, trivial⟩ (by kernel_rfl)
def q23 : Fact := ⟨75, [], (.agg (.gen [(iN 4), (iN 2)])), none⟩
theorem ZEU : q23.ok := fct [] trivial (by kernel_rfl)
def q24 : Fact := ⟨76, [], (.list (.gen [(.agg (.gen [(iN 9), (iN 0), (.list (.ints .i64 [1, 2]))])), (.agg (.gen [(iN 9), (iN 1), (.list (.ints .i64 [3]))]))])), none⟩
theorem Zz6 : q24.ok := fct [] trivial (by kernel_rfl)
def q25 : Fact := ⟨87, [(iN 4), (iN 4), (iN 24)], (.bool true), none⟩
theorem ZEp : q25.ok := fct [] trivial (by kernel_rfl)
def q26 : Fact := ⟨87, [(iN 2), (iN 1), (iN 4)], (.bool true), none⟩
theorem ZDJ : q26.ok := fct [] trivial (by kernel_rfl)
def q27 : Fact := ⟨63, [(.agg (.gen [(iN 4), (iN 2)]))], (iN 0), none⟩
theorem ZFD : q27.ok := fct [q25, q26, q4] ⟨ZEp, ZDJ, Zfs, trivial⟩ (by kernel_rfl)
def q28 : Fact := ⟨95, [(.agg (.gen [(iN 4), (iN 2)]))], (.tup [(.agg (.gen [(iN 4), (iN 2)])), (iN 0)]), none⟩
theorem ZBj : q28.ok := fct [q27] ⟨ZFD, trivial⟩ (by kernel_rfl)
def q29 : Fact := ⟨87, [(iN 0), (iN 0), (iN 1)], (.bool true), none⟩
theorem ZCl : q29.ok := fct [] trivial (by kernel_rfl)
def q30 : Fact := ⟨86, [(.bool true), (iN 6)], (iN 0), none⟩
theorem ZEJ : q30.ok := fct [] trivial (by kernel_rfl)
def q31 : Fact := ⟨131, [(.agg (.gen [(iN 4), (iN 2)])), (iN 0)], (iN 0), none⟩
theorem Zmg : q31.ok := fct [q29, q30] ⟨ZCl, ZEJ, trivial⟩ (by kernel_rfl)
def q32 : Fact := ⟨84, [(.list (.ints .i64 [0, 0]))], (iN 0), none⟩
theorem ZkN : q32.ok := fct [] trivial (by kernel_rfl)
def q33 : Fact := ⟨99, [(.agg (.gen [(iN 4), (iN 2)])), (iN 0)], (.tup [(.agg (.gen [(iN 4), (iN 2)])), (iN 0)]), none⟩
theorem Ztd : q33.ok := fct [q28, q31, q32] ⟨ZBj, Zmg, ZkN, trivial⟩ (by kernel_rfl)
def q34 : Fact := ⟨87, [(iN 0), (iN 0), (iN 63)], (.bool true), none⟩
theorem ZB2 : q34.ok := fct [] trivial (by kernel_rfl)
def q35 : Fact := ⟨100, [(iN 0)], (.bool true), none⟩
theorem Zt0 : q35.ok := fct [q34] ⟨ZB2, trivial⟩ (by kernel_rfl)
def q36 : Fact := ⟨87, [(iN 9), (iN 0), (iN 255)], (.bool true), none⟩
theorem ZAP : q36.ok := fct [] trivial (by kernel_rfl)
def q37 : Fact := ⟨93, [(iN 9)], (.bool true), none⟩
theorem Ztw : q37.ok := fct [q36] ⟨ZAP, trivial⟩ (by kernel_rfl)
def q38 : Fact := ⟨128, [(iN 2)], (iN 0), none⟩
theorem ZpZ : q38.ok := fct [] trivial (by kernel_rfl)
def q39 : Fact := ⟨127, [(.list (.ints .i64 [1, 2])), (.fn 128 [])], (iN 0), none⟩
theorem ZAX : q39.ok := fct [q5, q38] ⟨Zsr, ZpZ, trivial⟩ (by kernel_rfl)
def q40 : Fact := ⟨94, [(.list (.ints .i64 [1, 2]))], (iN 0), none⟩
theorem ZAr : q40.ok := fct [q39] ⟨ZAX, trivial⟩ (by kernel_rfl)
def q41 : Fact := ⟨30, [(.agg (.gen [(iN 9), (iN 0), (.list (.ints .i64 [1, 2]))]))], (iN 0), none⟩
theorem ZBN : q41.ok := fct [q37, q10, q4, q1, q40, q20] ⟨Ztw, Zul, Zfs, Znv, ZAr, ZjZ, trivial⟩ (by kernel_rfl)
def q42 : Fact := ⟨128, [(iN 3)], (iN 0), none⟩
theorem Zs1 : q42.ok := fct [] trivial (by kernel_rfl)
def q43 : Fact := ⟨127, [(.list (.ints .i64 [3])), (.fn 128 [])], (iN 0), none⟩
theorem ZEj : q43.ok := fct [q42] ⟨Zs1, trivial⟩ (by kernel_rfl)
def q44 : Fact := ⟨94, [(.list (.ints .i64 [3]))], (iN 0), none⟩
theorem ZzQ : q44.ok := fct [q43] ⟨ZEj, trivial⟩ (by kernel_rfl)
def q45 : Fact := ⟨30, [(.agg (.gen [(iN 9), (iN 1), (.list (.ints .i64 [3]))]))], (iN 0), none⟩
theorem ZB8 : q45.ok := fct [q37, q3, q4, q1, q44, q20] ⟨Ztw, ZBn, Zfs, Znv, ZzQ, ZjZ, trivial⟩ (by kernel_rfl)
def q46 : Fact := ⟨129, [(.list (.gen [(.agg (.gen [(iN 9), (iN 0), (.list (.ints .i64 [1, 2]))])), (.agg (.gen [(iN 9), (iN 1), (.list (.ints .i64 [3]))]))])), (.fn 30 [])], (iN 0), none⟩
theorem ZAz : q46.ok := fct [q41, q45] ⟨ZBN, ZB8, trivial⟩ (by kernel_rfl)
def q47 : Fact := ⟨96, [(.list (.gen [(.agg (.gen [(iN 9), (iN 0), (.list (.ints .i64 [1, 2]))])), (.agg (.gen [(iN 9), (iN 1), (.list (.ints .i64 [3]))]))]))], (iN 0), none⟩
theorem ZFU : q47.ok := fct [q1, q46, q32] ⟨Znv, ZAz, ZkN, trivial⟩ (by kernel_rfl)
def q48 : Fact := ⟨130, [(.list (.gen [(.agg (.gen [(iN 9), (iN 0), (.list (.ints .i64 [1, 2]))])), (.agg (.gen [(iN 9), (iN 1), (.list (.ints .i64 [3]))]))]))], (.row 0 0), (some ⟨57, 3, (.gen [(.agg (.gen [(iN 9), (iN 0), (.list (.ints .i64 [1, 2]))])), (.agg (.gen [(iN 9), (iN 1), (.list (.ints .i64 [3]))]))])⟩)⟩
theorem ZGc : q48.ok := fct [] trivial (by kernel_rfl)
def q49 : Fact := ⟨98, [(.agg (.gen [(iN 4), (iN 2)])), (.list (.gen [(.agg (.gen [(iN 9), (iN 0), (.list (.ints .i64 [1, 2]))])), (.agg (.gen [(iN 9), (iN 1), (.list (.ints .i64 [3]))]))]))], (.row 0 0), (some ⟨57, 3, (.big (.agg [(.int .i64), (.int .i64), (.ints .i64)]) [(.agg (.gen [(iN 9), (iN 0), (.list (.ints .i64 [1, 2]))])), (.agg (.gen [(iN 9), (iN 1), (.list (.ints .i64 [3]))])), (.agg (.gen [(iN 255), (iN 0), (.list (.ints .i64 []))]))])⟩)⟩
theorem ZzJ : q49.ok := fct [q48] ⟨ZGc, trivial⟩ (by kernel_rfl)
def q50 : Fact := ⟨97, [(.list (.big (.agg [(.int .i64), (.int .i64), (.ints .i64)]) [(.agg (.gen [(iN 9), (iN 0), (.list (.ints .i64 [1, 2]))])), (.agg (.gen [(iN 9), (iN 1), (.list (.ints .i64 [3]))])), (.agg (.gen [(iN 255), (iN 0), (.list (.ints .i64 []))]))]))], (.tup [(.list (.ints .i64 [9, 0, 2, 1, 2, 9, 1, 1, 3, 255, 0, 0])), (.list (.ints .i64 [0, 5, 9]))]), none⟩
theorem Zz0 : q50.ok := fct [] trivial (by kernel_rfl)
def q51 : Fact := ⟨102, [(.list (.ints .i64 [9, 0, 2, 1]))], (.row 0 0), (some ⟨3, 1, (.ints .i64 [9, 0, 2, 1])⟩)⟩
theorem ZEf : q51.ok := fct [] trivial (by kernel_rfl)
def q52 : Fact := ⟨138, [(iN 5)], (.bool false), none⟩
theorem ZqW : q52.ok := fct [] trivial (by kernel_rfl)
def q53 : Fact := ⟨133, [(iN 5), (iN 0)], (.bool false), none⟩
theorem ZFS : q53.ok := fct [q52] ⟨ZqW, trivial⟩ (by kernel_rfl)
def q54 : Fact := ⟨138, [(iN 0)], (.bool false), none⟩
theorem ZuC : q54.ok := fct [] trivial (by kernel_rfl)
def q55 : Fact := ⟨133, [(iN 0), (iN 0)], (.bool false), none⟩
theorem ZAk : q55.ok := fct [q54] ⟨ZuC, trivial⟩ (by kernel_rfl)
def q56 : Fact := ⟨103, [(.list (.ints .i64 [0, 5, 9])), (iN 0)], (.tup [(iN 0), (.bool true)]), none⟩
theorem ZCL : q56.ok := fct [q53, q55] ⟨ZFS, ZAk, trivial⟩ (by kernel_rfl)
def q57 : Fact := ⟨102, [(.list (.ints .i64 [2, 9, 1, 1]))], (.row 0 0), (some ⟨3, 1, (.ints .i64 [2, 9, 1, 1])⟩)⟩
theorem ZGp : q57.ok := fct [] trivial (by kernel_rfl)
def q58 : Fact := ⟨133, [(iN 5), (iN 4)], (.bool false), none⟩
theorem ZCa : q58.ok := fct [q52] ⟨ZqW, trivial⟩ (by kernel_rfl)
def q59 : Fact := ⟨133, [(iN 0), (iN 4)], (.bool true), none⟩
theorem ZDd : q59.ok := fct [q54] ⟨ZuC, trivial⟩ (by kernel_rfl)
def q60 : Fact := ⟨134, [(iN 5)], (.bool false), none⟩
theorem ZAY : q60.ok := fct [] trivial (by kernel_rfl)
def q61 : Fact := ⟨103, [(.list (.ints .i64 [0, 5, 9])), (iN 4)], (.tup [(iN 1), (.bool false)]), none⟩
theorem ZDp : q61.ok := fct [q58, q59, q60] ⟨ZCa, ZDd, ZAY, trivial⟩ (by kernel_rfl)
def q62 : Fact := ⟨102, [(.list (.ints .i64 [3, 255, 0, 0]))], (.row 0 0), (some ⟨3, 1, (.ints .i64 [3, 255, 0, 0])⟩)⟩
theorem ZCm : q62.ok := fct [] trivial (by kernel_rfl)
def q63 : Fact := ⟨133, [(iN 5), (iN 8)], (.bool true), none⟩
theorem ZCo : q63.ok := fct [q52] ⟨ZqW, trivial⟩ (by kernel_rfl)
def q64 : Fact := ⟨138, [(iN 9)], (.bool false), none⟩
theorem ZBo : q64.ok := fct [] trivial (by kernel_rfl)
def q65 : Fact := ⟨133, [(iN 9), (iN 8)], (.bool false), none⟩
theorem ZFh : q65.ok := fct [q64] ⟨ZBo, trivial⟩ (by kernel_rfl)
def q66 : Fact := ⟨134, [(iN 9)], (.bool false), none⟩
theorem ZDT : q66.ok := fct [] trivial (by kernel_rfl)
def q67 : Fact := ⟨103, [(.list (.ints .i64 [0, 5, 9])), (iN 8)], (.tup [(iN 2), (.bool false)]), none⟩
theorem ZEm : q67.ok := fct [q63, q65, q66] ⟨ZCo, ZFh, ZDT, trivial⟩ (by kernel_rfl)
def q68 : Fact := ⟨35, [(.agg (.gen [(iN 4), (iN 2)])), (.agg (.gen [(iN 0), (iN 0)])), (.list (.gen [(.agg (.gen [(iN 9), (iN 0), (.list (.ints .i64 [1, 2]))])), (.agg (.gen [(iN 9), (iN 1), (.list (.ints .i64 [3]))]))]))], (.tup [(.list (.gen [(.agg (.gen [(iN 0), (iN 0), (iN 0), (.list (.ints .i64 [9, 0, 2, 1]))])), (.agg (.gen [(iN 0), (iN 1), (iN 1), (.list (.ints .i64 [2, 9, 1, 1]))])), (.agg (.gen [(iN 0), (iN 2), (iN 1), (.list (.ints .i64 [3, 255, 0, 0]))]))])), (iN 0)]), none⟩
theorem ZGm : q68.ok := fct [q33, q35, q4, q47, q20, q49, q50, q51, q56, q57, q61, q62, q67] ⟨Ztd, Zt0, Zfs, ZFU, ZjZ, ZzJ, Zz0, ZEf, ZCL, ZGp, ZDp, ZCm, ZEm, trivial⟩ (by kernel_rfl)
def q69 : Fact := ⟨55, [(.list (.ints .i64 [9, 0, 2, 1]))], (.row 0 0), (some ⟨3, 1, (.ints .i64 [9, 0, 2, 1])⟩)⟩
theorem ZEY : q69.ok := fct [] trivial (by kernel_rfl)
def q70 : Fact := ⟨40, [(.agg (.gen [(iN 0), (iN 0), (iN 0), (.list (.ints .i64 [9, 0, 2, 1]))]))], (.agg (.gen [(iN 0), (iN 0), (iN 0), (.list (.ints .i64 [9, 0, 2, 1]))])), none⟩
theorem ZD1 : q70.ok := fct [q69] ⟨ZEY, trivial⟩ (by kernel_rfl)
def q71 : Fact := ⟨55, [(.list (.ints .i64 [2, 9, 1, 1]))], (.row 0 0), (some ⟨3, 1, (.ints .i64 [2, 9, 1, 1])⟩)⟩
theorem ZFl : q71.ok := fct [] trivial (by kernel_rfl)
def q72 : Fact := ⟨40, [(.agg (.gen [(iN 0), (iN 1), (iN 1), (.list (.ints .i64 [2, 9, 1, 1]))]))], (.agg (.gen [(iN 0), (iN 1), (iN 1), (.list (.ints .i64 [2, 9, 1, 1]))])), none⟩
theorem ZFx : q72.ok := fct [q71] ⟨ZFl, trivial⟩ (by kernel_rfl)
def q73 : Fact := ⟨55, [(.list (.ints .i64 [3, 255, 0, 0]))], (.row 0 0), (some ⟨3, 1, (.ints .i64 [3, 255, 0, 0])⟩)⟩
theorem ZFN : q73.ok := fct [] trivial (by kernel_rfl)
def q74 : Fact := ⟨40, [(.agg (.gen [(iN 0), (iN 2), (iN 1), (.list (.ints .i64 [3, 255, 0, 0]))]))], (.agg (.gen [(iN 0), (iN 2), (iN 1), (.list (.ints .i64 [3, 255, 0, 0]))])), none⟩
theorem ZDV : q74.ok := fct [q73] ⟨ZFN, trivial⟩ (by kernel_rfl)
def q75 : Fact := ⟨17, [(.list (.gen [(.agg (.gen [(iN 0), (iN 0), (iN 0), (.list (.ints .i64 [9, 0, 2, 1]))])), (.agg (.gen [(iN 0), (iN 1), (iN 1), (.list (.ints .i64 [2, 9, 1, 1]))])), (.agg (.gen [(iN 0), (iN 2), (iN 1), (.list (.ints .i64 [3, 255, 0, 0]))]))]))], (.row 0 0), (some ⟨74, 4, (.big (.agg [(.int .i64), (.int .i64), (.int .i64), (.ints .i64)]) [(.agg (.gen [(iN 0), (iN 0), (iN 0), (.list (.ints .i64 [9, 0, 2, 1]))])), (.agg (.gen [(iN 0), (iN 1), (iN 1), (.list (.ints .i64 [2, 9, 1, 1]))])), (.agg (.gen [(iN 0), (iN 2), (iN 1), (.list (.ints .i64 [3, 255, 0, 0]))]))])⟩)⟩
theorem ZEh : q75.ok := fct [q70, q72, q74] ⟨ZD1, ZFx, ZDV, trivial⟩ (by kernel_rfl)
def q76 : Fact := ⟨87, [(iN 0), (iN 0), (iN 3)], (.bool true), none⟩
theorem ZBe : q76.ok := fct [] trivial (by kernel_rfl)
def q77 : Fact := ⟨128, [(iN 9)], (iN 0), none⟩
theorem ZuH : q77.ok := fct [] trivial (by kernel_rfl)
def q78 : Fact := ⟨127, [(.list (.ints .i64 [9, 0, 2, 1])), (.fn 128 [])], (iN 0), none⟩
theorem ZEe : q78.ok := fct [q77, q11, q38, q5] ⟨ZuH, ZqN, ZpZ, Zsr, trivial⟩ (by kernel_rfl)
def q79 : Fact := ⟨94, [(.list (.ints .i64 [9, 0, 2, 1]))], (iN 0), none⟩
theorem ZE8 : q79.ok := fct [q78] ⟨ZEe, trivial⟩ (by kernel_rfl)
def q80 : Fact := ⟨84, [(.list (.ints .i64 [0, 0, 0, 0]))], (iN 0), none⟩
theorem Zp8 : q80.ok := fct [] trivial (by kernel_rfl)
def q81 : Fact := ⟨110, [(.agg (.gen [(iN 4), (iN 2)])), (.agg (.gen [(iN 0), (iN 0), (iN 0), (.list (.ints .i64 [9, 0, 2, 1]))]))], (iN 0), none⟩
theorem ZAA : q81.ok := fct [q31, q35, q76, q4, q0, q79, q80] ⟨Zmg, Zt0, ZBe, Zfs, ZnZ, ZE8, Zp8, trivial⟩ (by kernel_rfl)
def q82 : Fact := ⟨87, [(iN 1), (iN 0), (iN 63)], (.bool true), none⟩
theorem ZFI : q82.ok := fct [] trivial (by kernel_rfl)
def q83 : Fact := ⟨100, [(iN 1)], (.bool true), none⟩
theorem ZAH : q83.ok := fct [q82] ⟨ZFI, trivial⟩ (by kernel_rfl)
def q84 : Fact := ⟨87, [(iN 1), (iN 0), (iN 3)], (.bool true), none⟩
theorem Zts : q84.ok := fct [] trivial (by kernel_rfl)
def q85 : Fact := ⟨127, [(.list (.ints .i64 [2, 9, 1, 1])), (.fn 128 [])], (iN 0), none⟩
theorem ZGg : q85.ok := fct [q38, q77, q5] ⟨ZpZ, ZuH, Zsr, trivial⟩ (by kernel_rfl)
def q86 : Fact := ⟨94, [(.list (.ints .i64 [2, 9, 1, 1]))], (iN 0), none⟩
theorem ZDF : q86.ok := fct [q85] ⟨ZGg, trivial⟩ (by kernel_rfl)
def q87 : Fact := ⟨110, [(.agg (.gen [(iN 4), (iN 2)])), (.agg (.gen [(iN 0), (iN 1), (iN 1), (.list (.ints .i64 [2, 9, 1, 1]))]))], (iN 0), none⟩
theorem ZA9 : q87.ok := fct [q31, q83, q84, q4, q0, q86, q80] ⟨Zmg, ZAH, Zts, Zfs, ZnZ, ZDF, Zp8, trivial⟩ (by kernel_rfl)
def q88 : Fact := ⟨87, [(iN 2), (iN 0), (iN 63)], (.bool true), none⟩
theorem ZCq : q88.ok := fct [] trivial (by kernel_rfl)
def q89 : Fact := ⟨100, [(iN 2)], (.bool true), none⟩
theorem ZFM : q89.ok := fct [q88] ⟨ZCq, trivial⟩ (by kernel_rfl)
def q90 : Fact := ⟨127, [(.list (.ints .i64 [3, 255, 0, 0])), (.fn 128 [])], (iN 0), none⟩
theorem ZDG : q90.ok := fct [q42, q17, q11] ⟨Zs1, Zuz, ZqN, trivial⟩ (by kernel_rfl)
def q91 : Fact := ⟨94, [(.list (.ints .i64 [3, 255, 0, 0]))], (iN 0), none⟩
theorem ZDu : q91.ok := fct [q90] ⟨ZDG, trivial⟩ (by kernel_rfl)
def q92 : Fact := ⟨110, [(.agg (.gen [(iN 4), (iN 2)])), (.agg (.gen [(iN 0), (iN 2), (iN 1), (.list (.ints .i64 [3, 255, 0, 0]))]))], (iN 0), none⟩
theorem ZEd : q92.ok := fct [q31, q89, q84, q4, q0, q91, q80] ⟨Zmg, ZFM, Zts, Zfs, ZnZ, ZDu, Zp8, trivial⟩ (by kernel_rfl)
def q93 : Fact := ⟨117, [(.list (.big (.agg [(.int .i64), (.int .i64), (.int .i64), (.ints .i64)]) [(.agg (.gen [(iN 0), (iN 0), (iN 0), (.list (.ints .i64 [9, 0, 2, 1]))])), (.agg (.gen [(iN 0), (iN 1), (iN 1), (.list (.ints .i64 [2, 9, 1, 1]))])), (.agg (.gen [(iN 0), (iN 2), (iN 1), (.list (.ints .i64 [3, 255, 0, 0]))]))])), (.val (.func (.func 110) ⟨[(.agg ⟨[(.int .i64 4), (.int .i64 2)]⟩)]⟩ ⟨[]⟩))], (iN 0), none⟩
theorem ZDq : q93.ok := fct [q81, q87, q92] ⟨ZAA, ZA9, ZEd, trivial⟩ (by kernel_rfl)
def q94 : Fact := ⟨78, [(.agg (.gen [(iN 4), (iN 2)])), (iN 0), (.list (.big (.agg [(.int .i64), (.int .i64), (.int .i64), (.ints .i64)]) [(.agg (.gen [(iN 0), (iN 0), (iN 0), (.list (.ints .i64 [9, 0, 2, 1]))])), (.agg (.gen [(iN 0), (iN 1), (iN 1), (.list (.ints .i64 [2, 9, 1, 1]))])), (.agg (.gen [(iN 0), (iN 2), (iN 1), (.list (.ints .i64 [3, 255, 0, 0]))]))]))], (.tup [(.agg (.gen [(iN 4), (iN 2)])), (iN 0)]), none⟩
theorem ZuA : q94.ok := fct [q33, q1, q93, q20] ⟨Ztd, Znv, ZDq, ZjZ, trivial⟩ (by kernel_rfl)
def q95 : Fact := ⟨120, [(iN 65), (iN 64)], (iN 1), none⟩
theorem ZE1 : q95.ok := fct [] trivial (by kernel_rfl)
def q96 : Fact := ⟨119, [(.agg (.gen [(iN 0), (iN 1), (iN 1), (.list (.ints .i64 [2, 9, 1, 1])), (iN 65)])), (.agg (.gen [(iN 0), (iN 0), (iN 0), (.list (.ints .i64 [9, 0, 2, 1])), (iN 64)]))], (iN 1), none⟩
theorem ZBA : q96.ok := fct [q95] ⟨ZE1, trivial⟩ (by kernel_rfl)
def q97 : Fact := ⟨120, [(iN 66), (iN 65)], (iN 1), none⟩
theorem ZDL : q97.ok := fct [] trivial (by kernel_rfl)
def q98 : Fact := ⟨119, [(.agg (.gen [(iN 0), (iN 2), (iN 1), (.list (.ints .i64 [3, 255, 0, 0])), (iN 66)])), (.agg (.gen [(iN 0), (iN 1), (iN 1), (.list (.ints .i64 [2, 9, 1, 1])), (iN 65)]))], (iN 1), none⟩
theorem ZzN : q98.ok := fct [q97] ⟨ZDL, trivial⟩ (by kernel_rfl)
def q99 : Fact := ⟨139, [(.list (.big (.agg [(.int .i64), (.int .i64), (.int .i64), (.ints .i64), (.int .i64)]) [(.agg (.gen [(iN 0), (iN 0), (iN 0), (.list (.ints .i64 [9, 0, 2, 1])), (iN 64)])), (.agg (.gen [(iN 0), (iN 1), (iN 1), (.list (.ints .i64 [2, 9, 1, 1])), (iN 65)])), (.agg (.gen [(iN 0), (iN 2), (iN 1), (.list (.ints .i64 [3, 255, 0, 0])), (iN 66)]))])), (iN 0), (iN 3), (.fn 119 [])], (.tup []), none⟩
theorem ZCJ : q99.ok := fct [q96, q98] ⟨ZBA, ZzN, trivial⟩ (by kernel_rfl)
def q100 : Fact := ⟨137, [(.list (.big (.agg [(.int .i64), (.int .i64), (.int .i64), (.ints .i64), (.int .i64)]) [(.agg (.gen [(iN 0), (iN 0), (iN 0), (.list (.ints .i64 [9, 0, 2, 1])), (iN 64)])), (.agg (.gen [(iN 0), (iN 1), (iN 1), (.list (.ints .i64 [2, 9, 1, 1])), (iN 65)])), (.agg (.gen [(iN 0), (iN 2), (iN 1), (.list (.ints .i64 [3, 255, 0, 0])), (iN 66)]))])), (iN 3), (.fn 119 [])], (.tup []), none⟩
theorem ZxN : q100.ok := fct [q99] ⟨ZCJ, trivial⟩ (by kernel_rfl)
def q101 : Fact := ⟨118, [(.list (.big (.agg [(.int .i64), (.int .i64), (.int .i64), (.ints .i64), (.int .i64)]) [(.agg (.gen [(iN 0), (iN 0), (iN 0), (.list (.ints .i64 [9, 0, 2, 1])), (iN 64)])), (.agg (.gen [(iN 0), (iN 1), (iN 1), (.list (.ints .i64 [2, 9, 1, 1])), (iN 65)])), (.agg (.gen [(iN 0), (iN 2), (iN 1), (.list (.ints .i64 [3, 255, 0, 0])), (iN 66)]))])), (.fn 119 [])], (.tup []), none⟩
theorem Zo9 : q101.ok := fct [q100] ⟨ZxN, trivial⟩ (by kernel_rfl)
def q102 : Fact := ⟨122, [(.agg (.gen [(iN 0), (iN 1), (iN 1), (.list (.ints .i64 [2, 9, 1, 1])), (iN 65)])), (.agg (.gen [(iN 0), (iN 0), (iN 0), (.list (.ints .i64 [9, 0, 2, 1])), (iN 64)]))], (.bool false), none⟩
theorem Zln : q102.ok := fct [] trivial (by kernel_rfl)
def q103 : Fact := ⟨122, [(.agg (.gen [(iN 0), (iN 2), (iN 1), (.list (.ints .i64 [3, 255, 0, 0])), (iN 66)])), (.agg (.gen [(iN 0), (iN 1), (iN 1), (.list (.ints .i64 [2, 9, 1, 1])), (iN 65)]))], (.bool false), none⟩
theorem Zlg : q103.ok := fct [] trivial (by kernel_rfl)
def q104 : Fact := ⟨121, [(.list (.big (.agg [(.int .i64), (.int .i64), (.int .i64), (.ints .i64), (.int .i64)]) [(.agg (.gen [(iN 0), (iN 0), (iN 0), (.list (.ints .i64 [9, 0, 2, 1])), (iN 64)])), (.agg (.gen [(iN 0), (iN 1), (iN 1), (.list (.ints .i64 [2, 9, 1, 1])), (iN 65)])), (.agg (.gen [(iN 0), (iN 2), (iN 1), (.list (.ints .i64 [3, 255, 0, 0])), (iN 66)]))])), (.fn 122 [])], (.list (.big (.agg [(.int .i64), (.int .i64), (.int .i64), (.ints .i64), (.int .i64)]) [(.agg (.gen [(iN 0), (iN 0), (iN 0), (.list (.ints .i64 [9, 0, 2, 1])), (iN 64)])), (.agg (.gen [(iN 0), (iN 1), (iN 1), (.list (.ints .i64 [2, 9, 1, 1])), (iN 65)])), (.agg (.gen [(iN 0), (iN 2), (iN 1), (.list (.ints .i64 [3, 255, 0, 0])), (iN 66)]))])), none⟩
theorem ZpX : q104.ok := fct [q102, q103] ⟨Zln, Zlg, trivial⟩ (by kernel_rfl)
def q105 : Fact := ⟨79, [(iN 0), (.list (.big (.agg [(.int .i64), (.int .i64), (.int .i64), (.ints .i64)]) [(.agg (.gen [(iN 0), (iN 0), (iN 0), (.list (.ints .i64 [9, 0, 2, 1]))])), (.agg (.gen [(iN 0), (iN 1), (iN 1), (.list (.ints .i64 [2, 9, 1, 1]))])), (.agg (.gen [(iN 0), (iN 2), (iN 1), (.list (.ints .i64 [3, 255, 0, 0]))]))]))], (.row 0 0), (some ⟨140, 5, (.big (.agg [(.int .i64), (.int .i64), (.int .i64), (.ints .i64), (.int .i64)]) [(.agg (.gen [(iN 0), (iN 0), (iN 0), (.list (.ints .i64 [9, 0, 2, 1])), (iN 64)])), (.agg (.gen [(iN 0), (iN 1), (iN 1), (.list (.ints .i64 [2, 9, 1, 1])), (iN 65)])), (.agg (.gen [(iN 0), (iN 2), (iN 1), (.list (.ints .i64 [3, 255, 0, 0])), (iN 66)]))])⟩)⟩
theorem ZpN : q105.ok := fct [q101, q104, q102, q103] ⟨Zo9, ZpX, Zln, Zlg, trivial⟩ (by kernel_rfl)
def q106 : Fact := ⟨113, [(.list (.gen [.nils, (.list (.ints .i64 [9, 0, 2, 1]))]))], (.row 0 0), (some ⟨3, 1, (.ints .i64 [9, 0, 2, 1])⟩)⟩
theorem ZoH : q106.ok := fct [] trivial (by kernel_rfl)
def q107 : Fact := ⟨113, [(.list (.big (.ints .i64) [(.list (.ints .i64 [9, 0, 2, 1])), (.list (.ints .i64 [2, 9, 1, 1]))]))], (.row 0 0), (some ⟨3, 1, (.ints .i64 [9, 0, 2, 1, 2, 9, 1, 1])⟩)⟩
theorem Zyw : q107.ok := fct [] trivial (by kernel_rfl)
def q108 : Fact := ⟨123, [(.eptr (.agg (.gen [(.bool true), (.list (.ints .i64 [9, 0, 2, 1])), .nils])) 0), (.agg (.gen [(iN 0), (iN 1), (iN 1), (.list (.ints .i64 [2, 9, 1, 1]))]))], (iN 1), none⟩
theorem ZqX : q108.ok := fct [q107] ⟨Zyw, trivial⟩ (by kernel_rfl)
def q109 : Fact := ⟨113, [(.list (.gen [(.list (.ints .i64 [9, 0, 2, 1])), (.list (.ints .i64 [2, 9, 1, 1]))]))], (.row 0 0), (some ⟨3, 1, (.ints .i64 [9, 0, 2, 1, 2, 9, 1, 1])⟩)⟩
theorem Zq1 : q109.ok := fct [] trivial (by kernel_rfl)
def q110 : Fact := ⟨102, [(.list (.ints .i64 [1, 2]))], (.row 0 0), (some ⟨3, 1, (.ints .i64 [1, 2])⟩)⟩
theorem Zra : q110.ok := fct [] trivial (by kernel_rfl)
def q111 : Fact := ⟨113, [(.list (.big (.ints .i64) [(.list (.ints .i64 [9, 1, 1])), (.list (.ints .i64 [3, 255, 0, 0]))]))], (.row 0 0), (some ⟨3, 1, (.ints .i64 [9, 1, 1, 3, 255, 0, 0])⟩)⟩
theorem Zyn : q111.ok := fct [] trivial (by kernel_rfl)
def q112 : Fact := ⟨123, [(.eptr (.agg (.gen [(.bool true), (.list (.ints .i64 [9, 1, 1])), (.list (.gen [(.agg (.gen [(iN 9), (iN 0), (.list (.ints .i64 [1, 2]))]))]))])) 0), (.agg (.gen [(iN 0), (iN 2), (iN 1), (.list (.ints .i64 [3, 255, 0, 0]))]))], (iN 1), none⟩
theorem Zp9 : q112.ok := fct [q111] ⟨Zyn, trivial⟩ (by kernel_rfl)
def q113 : Fact := ⟨113, [(.list (.gen [(.list (.ints .i64 [9, 1, 1])), (.list (.ints .i64 [3, 255, 0, 0]))]))], (.row 0 0), (some ⟨3, 1, (.ints .i64 [9, 1, 1, 3, 255, 0, 0])⟩)⟩
theorem Zqc : q113.ok := fct [] trivial (by kernel_rfl)
def q114 : Fact := ⟨102, [(.list (.ints .i64 [3]))], (.row 0 0), (some ⟨3, 1, (.ints .i64 [3])⟩)⟩
theorem ZqP : q114.ok := fct [] trivial (by kernel_rfl)
def q115 : Fact := ⟨102, [(.list (.ints .i64 []))], (.list (.ints .i64 [])), (some ⟨0, 0, (.gen [])⟩)⟩
theorem ZpG : q115.ok := Zmq [] (by decide)
def q116 : Fact := ⟨16, [(.agg (.gen [(iN 4), (iN 2)])), (iN 0), (.list (.big (.agg [(.int .i64), (.int .i64), (.int .i64), (.ints .i64)]) [(.agg (.gen [(iN 0), (iN 0), (iN 0), (.list (.ints .i64 [9, 0, 2, 1]))])), (.agg (.gen [(iN 0), (iN 1), (iN 1), (.list (.ints .i64 [2, 9, 1, 1]))])), (.agg (.gen [(iN 0), (iN 2), (iN 1), (.list (.ints .i64 [3, 255, 0, 0]))]))]))], (.tup [(.list (.gen [(.agg (.gen [(iN 9), (iN 0), (.list (.ints .i64 [1, 2]))])), (.agg (.gen [(iN 9), (iN 1), (.list (.ints .i64 [3]))]))])), (iN 0)]), none⟩
theorem ZvB : q116.ok := fct [q94, q105, q106, q108, q109, q110, q112, q113, q114, q115] ⟨ZuA, ZpN, ZoH, ZqX, Zq1, Zra, Zp9, Zqc, ZqP, ZpG, trivial⟩ (by kernel_rfl)
def q122 : Fact := ⟨77, [], (.row 0 0), (some ⟨49, 3, (.big (.agg [(.int .i64), (.int .i64), (.int .i64)]) [(.agg (.gen [(iN 0), (iN 10), (iN 12)])), (.agg (.gen [(iN 10), (iN 30), (iN 32)])), (.agg (.gen [(iN 20), (iN 50), (iN 51)]))])⟩)⟩
theorem ZxX : q122.ok := fct [] trivial (by kernel_rfl)
def q123 : Fact := ⟨87, [(iN 0), (iN 0), (iN 1000000)], (.bool true), none⟩
theorem ZvM : q123.ok := fct [] trivial (by kernel_rfl)
def q124 : Fact := ⟨87, [(iN 10), (iN 0), (iN 1000000000000)], (.bool true), none⟩
theorem Zwo : q124.ok := fct [] trivial (by kernel_rfl)
def q125 : Fact := ⟨105, [(iN 10)], (.bool true), none⟩
theorem ZvR : q125.ok := fct [q124] ⟨Zwo, trivial⟩ (by kernel_rfl)
def q126 : Fact := ⟨87, [(iN 12), (iN 0), (iN 1000000000000)], (.bool true), none⟩
theorem Zwm : q126.ok := fct [] trivial (by kernel_rfl)
def q127 : Fact := ⟨105, [(iN 12)], (.bool true), none⟩
theorem ZwO : q127.ok := fct [q126] ⟨Zwm, trivial⟩ (by kernel_rfl)
def q128 : Fact := ⟨86, [(.bool true), (iN 9)], (iN 0), none⟩
theorem Zvj : q128.ok := fct [] trivial (by kernel_rfl)
def q129 : Fact := ⟨87, [(iN 10), (iN 0), (iN 1000000)], (.bool true), none⟩
theorem ZyJ : q129.ok := fct [] trivial (by kernel_rfl)
def q130 : Fact := ⟨87, [(iN 30), (iN 0), (iN 1000000000000)], (.bool true), none⟩
theorem Zx0 : q130.ok := fct [] trivial (by kernel_rfl)
def q131 : Fact := ⟨105, [(iN 30)], (.bool true), none⟩
theorem ZuY : q131.ok := fct [q130] ⟨Zx0, trivial⟩ (by kernel_rfl)
def q132 : Fact := ⟨87, [(iN 32), (iN 0), (iN 1000000000000)], (.bool true), none⟩
theorem Zv3 : q132.ok := fct [] trivial (by kernel_rfl)
def q133 : Fact := ⟨105, [(iN 32)], (.bool true), none⟩
theorem ZvL : q133.ok := fct [q132] ⟨Zv3, trivial⟩ (by kernel_rfl)
def q134 : Fact := ⟨87, [(iN 20), (iN 0), (iN 1000000)], (.bool true), none⟩
theorem Zy6 : q134.ok := fct [] trivial (by kernel_rfl)
def q135 : Fact := ⟨87, [(iN 50), (iN 0), (iN 1000000000000)], (.bool true), none⟩
theorem Zx1 : q135.ok := fct [] trivial (by kernel_rfl)
def q136 : Fact := ⟨105, [(iN 50)], (.bool true), none⟩
theorem Zu8 : q136.ok := fct [q135] ⟨Zx1, trivial⟩ (by kernel_rfl)
def q137 : Fact := ⟨87, [(iN 51), (iN 0), (iN 1000000000000)], (.bool true), none⟩
theorem ZuT : q137.ok := fct [] trivial (by kernel_rfl)
def q138 : Fact := ⟨105, [(iN 51)], (.bool true), none⟩
theorem Zx4 : q138.ok := fct [q137] ⟨ZuT, trivial⟩ (by kernel_rfl)
def q139 : Fact := ⟨41, [(.list (.big (.agg [(.int .i64), (.int .i64), (.int .i64)]) [(.agg (.gen [(iN 0), (iN 10), (iN 12)])), (.agg (.gen [(iN 10), (iN 30), (iN 32)])), (.agg (.gen [(iN 20), (iN 50), (iN 51)]))]))], (.tup [(iN 0), (iN 0)]), none⟩
theorem Zwz : q139.ok := fct [q0, q1, q32, q123, q125, q127, q4, q128, q129, q131, q133, q134, q136, q138] ⟨ZnZ, Znv, ZkN, ZvM, ZvR, ZwO, Zfs, Zvj, ZyJ, ZuY, ZvL, Zy6, Zu8, Zx4, trivial⟩ (by kernel_rfl)
def q140 : Fact := ⟨114, [(iN 18), (iN 10)], (.agg (.gen [(iN 9), (iN 5)])), none⟩
theorem Zvh : q140.ok := fct [] trivial (by kernel_rfl)
def q141 : Fact := ⟨114, [(iN 22), (iN 10)], (.agg (.gen [(iN 11), (iN 5)])), none⟩
theorem Zyi : q141.ok := fct [] trivial (by kernel_rfl)
def q142 : Fact := ⟨114, [(iN 38), (iN 20)], (.agg (.gen [(iN 19), (iN 10)])), none⟩
theorem ZvK : q142.ok := fct [] trivial (by kernel_rfl)
def q143 : Fact := ⟨114, [(iN 41), (iN 20)], (.agg (.gen [(iN 41), (iN 20)])), none⟩
theorem Zw7 : q143.ok := fct [] trivial (by kernel_rfl)
def q144 : Fact := ⟨135, [(.agg (.gen [(iN 9), (iN 5)])), (.agg (.gen [(iN 19), (iN 10)]))], (.bool true), none⟩
theorem Zy8 : q144.ok := fct [] trivial (by kernel_rfl)
def q145 : Fact := ⟨135, [(.agg (.gen [(iN 41), (iN 20)])), (.agg (.gen [(iN 11), (iN 5)]))], (.bool true), none⟩
theorem Zx3 : q145.ok := fct [] trivial (by kernel_rfl)
def q146 : Fact := ⟨114, [(iN 21), (iN 10)], (.agg (.gen [(iN 21), (iN 10)])), none⟩
theorem Zvu : q146.ok := fct [] trivial (by kernel_rfl)
def q147 : Fact := ⟨135, [(.agg (.gen [(iN 19), (iN 10)])), (.agg (.gen [(iN 9), (iN 5)]))], (.bool false), none⟩
theorem ZyV : q147.ok := fct [] trivial (by kernel_rfl)
def q148 : Fact := ⟨135, [(.agg (.gen [(iN 21), (iN 10)])), (.agg (.gen [(iN 41), (iN 20)]))], (.bool false), none⟩
theorem Zvp : q148.ok := fct [] trivial (by kernel_rfl)
def q149 : Fact := ⟨106, [(.list (.big (.agg [(.int .i64), (.int .i64), (.int .i64)]) [(.agg (.gen [(iN 0), (iN 10), (iN 12)])), (.agg (.gen [(iN 10), (iN 30), (iN 32)])), (.agg (.gen [(iN 20), (iN 50), (iN 51)]))]))], (.agg (.gen [(iN 19), (iN 10), (iN 41), (iN 20)])), none⟩
theorem ZoU : q149.ok := fct [q140, q141, q142, q143, q144, q145, q146, q147, q148] ⟨Zvh, Zyi, ZvK, Zw7, Zy8, Zx3, Zvu, ZyV, Zvp, trivial⟩ (by kernel_rfl)
def q150 : Fact := ⟨135, [(.agg (.gen [(iN 41), (iN 20)])), (.agg (.gen [(iN 19), (iN 10)]))], (.bool false), none⟩
theorem Zw4 : q150.ok := fct [] trivial (by kernel_rfl)
def q151 : Fact := ⟨107, [(.list (.big (.agg [(.int .i64), (.int .i64), (.int .i64)]) [(.agg (.gen [(iN 0), (iN 10), (iN 12)])), (.agg (.gen [(iN 10), (iN 30), (iN 32)])), (.agg (.gen [(iN 20), (iN 50), (iN 51)]))]))], (.bool true), none⟩
theorem ZxI : q151.ok := fct [q149, q150] ⟨ZoU, Zw4, trivial⟩ (by kernel_rfl)
def q152 : Fact := ⟨86, [(.bool true), (iN 13)], (iN 0), none⟩
theorem ZvI : q152.ok := fct [] trivial (by kernel_rfl)
def q153 : Fact := ⟨85, [(.list (.big (.agg [(.int .i64), (.int .i64), (.int .i64)]) [(.agg (.gen [(iN 0), (iN 10), (iN 12)])), (.agg (.gen [(iN 10), (iN 30), (iN 32)])), (.agg (.gen [(iN 20), (iN 50), (iN 51)]))]))], (iN 0), none⟩
theorem ZoY : q153.ok := fct [q139, q0, q151, q152, q32] ⟨Zwz, ZnZ, ZxI, ZvI, ZkN, trivial⟩ (by kernel_rfl)
def q154 : Fact := ⟨87, [(iN 19), (iN (-1000000000)), (iN 1000000000)], (.bool true), none⟩
theorem Zyj : q154.ok := fct [] trivial (by kernel_rfl)
def q155 : Fact := ⟨87, [(iN 41), (iN (-1000000000)), (iN 1000000000)], (.bool true), none⟩
theorem ZyK : q155.ok := fct [] trivial (by kernel_rfl)
def q156 : Fact := ⟨42, [(.list (.big (.agg [(.int .i64), (.int .i64), (.int .i64)]) [(.agg (.gen [(iN 0), (iN 10), (iN 12)])), (.agg (.gen [(iN 10), (iN 30), (iN 32)])), (.agg (.gen [(iN 20), (iN 50), (iN 51)]))]))], (.tup [(.agg (.gen [(iN 19), (iN 10), (iN 41), (iN 20)])), (iN 0)]), none⟩
theorem Zvt : q156.ok := fct [q153, q149, q154, q155] ⟨ZoY, ZoU, Zyj, ZyK, trivial⟩ (by kernel_rfl)
def q157 : Fact := ⟨87, [(iN 30), (iN 0), (iN 1000000)], (.bool true), none⟩
theorem ZvD : q157.ok := fct [] trivial (by kernel_rfl)
def q158 : Fact := ⟨91, [(.agg (.gen [(iN 0), (iN 10), (iN 10), (iN 30)]))], (iN 10), none⟩
theorem ZfN : q158.ok := fct [] trivial (by kernel_rfl)
def q159 : Fact := ⟨89, [(.agg (.gen [(iN 0), (iN 10), (iN 10), (iN 30)])), (iN 0)], (iN 100), none⟩
theorem Zyl : q159.ok := fct [q158] ⟨ZfN, trivial⟩ (by kernel_rfl)
def q160 : Fact := ⟨87, [(iN 100), (iN 100), (iN 120)], (.bool true), none⟩
theorem Zlo : q160.ok := fct [] trivial (by kernel_rfl)
def q161 : Fact := ⟨89, [(.agg (.gen [(iN 0), (iN 10), (iN 10), (iN 30)])), (iN 10)], (iN 300), none⟩
theorem Zx2 : q161.ok := fct [q158] ⟨ZfN, trivial⟩ (by kernel_rfl)
def q162 : Fact := ⟨87, [(iN 300), (iN 300), (iN 320)], (.bool true), none⟩
theorem Zlz : q162.ok := fct [] trivial (by kernel_rfl)
def q163 : Fact := ⟨89, [(.agg (.gen [(iN 0), (iN 10), (iN 10), (iN 30)])), (iN 20)], (iN 500), none⟩
theorem ZxU : q163.ok := fct [q158] ⟨ZfN, trivial⟩ (by kernel_rfl)
def q164 : Fact := ⟨87, [(iN 500), (iN 500), (iN 510)], (.bool true), none⟩
theorem Zpm : q164.ok := fct [] trivial (by kernel_rfl)
def q165 : Fact := ⟨126, [(.agg (.gen [(iN 0), (iN 10), (iN 10), (iN 30)])), (.list (.big (.agg [(.int .i64), (.int .i64), (.int .i64)]) [(.agg (.gen [(iN 0), (iN 10), (iN 12)])), (.agg (.gen [(iN 10), (iN 30), (iN 32)])), (.agg (.gen [(iN 20), (iN 50), (iN 51)]))]))], (.bool true), none⟩
theorem Zy5 : q165.ok := fct [q159, q158, q160, q161, q162, q163, q164] ⟨Zyl, ZfN, Zlo, Zx2, Zlz, ZxU, Zpm, trivial⟩ (by kernel_rfl)
def q166 : Fact := ⟨89, [(.agg (.gen [(iN 0), (iN 10), (iN 10), (iN 30)])), (iN 30)], (iN 700), none⟩
theorem ZwV : q166.ok := fct [q158] ⟨ZfN, trivial⟩ (by kernel_rfl)
def q167 : Fact := ⟨90, [(iN 700), (iN 10)], (iN 70), none⟩
theorem ZyA : q167.ok := fct [] trivial (by kernel_rfl)
def q168 : Fact := ⟨90, [(iN (-700)), (iN 10)], (iN (-70)), none⟩
theorem Zw1 : q168.ok := fct [] trivial (by kernel_rfl)
def q169 : Fact := ⟨91, [(.agg (.gen [(iN 0), (iN 10), (iN 10), (iN 32)]))], (iN 10), none⟩
theorem Zjl : q169.ok := fct [] trivial (by kernel_rfl)
def q170 : Fact := ⟨89, [(.agg (.gen [(iN 0), (iN 10), (iN 10), (iN 32)])), (iN 0)], (iN 100), none⟩
theorem ZxW : q170.ok := fct [q169] ⟨Zjl, trivial⟩ (by kernel_rfl)
def q171 : Fact := ⟨89, [(.agg (.gen [(iN 0), (iN 10), (iN 10), (iN 32)])), (iN 10)], (iN 320), none⟩
theorem ZwG : q171.ok := fct [q169] ⟨Zjl, trivial⟩ (by kernel_rfl)
def q172 : Fact := ⟨87, [(iN 320), (iN 300), (iN 320)], (.bool true), none⟩
theorem ZoZ : q172.ok := fct [] trivial (by kernel_rfl)
def q173 : Fact := ⟨89, [(.agg (.gen [(iN 0), (iN 10), (iN 10), (iN 32)])), (iN 20)], (iN 540), none⟩
theorem Zwj : q173.ok := fct [q169] ⟨Zjl, trivial⟩ (by kernel_rfl)
def q174 : Fact := ⟨87, [(iN 540), (iN 500), (iN 510)], (.bool false), none⟩
theorem Zxw : q174.ok := fct [] trivial (by kernel_rfl)
def q175 : Fact := ⟨126, [(.agg (.gen [(iN 0), (iN 10), (iN 10), (iN 32)])), (.list (.big (.agg [(.int .i64), (.int .i64), (.int .i64)]) [(.agg (.gen [(iN 0), (iN 10), (iN 12)])), (.agg (.gen [(iN 10), (iN 30), (iN 32)])), (.agg (.gen [(iN 20), (iN 50), (iN 51)]))]))], (.bool false), none⟩
theorem Zvm : q175.ok := fct [q170, q169, q160, q171, q172, q173, q174] ⟨ZxW, Zjl, Zlo, ZwG, ZoZ, Zwj, Zxw, trivial⟩ (by kernel_rfl)
def q176 : Fact := ⟨91, [(.agg (.gen [(iN 0), (iN 12), (iN 10), (iN 30)]))], (iN 10), none⟩
theorem Zjk : q176.ok := fct [] trivial (by kernel_rfl)
def q177 : Fact := ⟨89, [(.agg (.gen [(iN 0), (iN 12), (iN 10), (iN 30)])), (iN 0)], (iN 120), none⟩
theorem ZyX : q177.ok := fct [q176] ⟨Zjk, trivial⟩ (by kernel_rfl)
def q178 : Fact := ⟨87, [(iN 120), (iN 100), (iN 120)], (.bool true), none⟩
theorem ZqQ : q178.ok := fct [] trivial (by kernel_rfl)
def q179 : Fact := ⟨89, [(.agg (.gen [(iN 0), (iN 12), (iN 10), (iN 30)])), (iN 10)], (iN 300), none⟩
theorem Zy0 : q179.ok := fct [q176] ⟨Zjk, trivial⟩ (by kernel_rfl)
def q180 : Fact := ⟨89, [(.agg (.gen [(iN 0), (iN 12), (iN 10), (iN 30)])), (iN 20)], (iN 480), none⟩
theorem Zze : q180.ok := fct [q176] ⟨Zjk, trivial⟩ (by kernel_rfl)
def q181 : Fact := ⟨87, [(iN 480), (iN 500), (iN 510)], (.bool false), none⟩
theorem ZyZ : q181.ok := fct [] trivial (by kernel_rfl)
def q182 : Fact := ⟨126, [(.agg (.gen [(iN 0), (iN 12), (iN 10), (iN 30)])), (.list (.big (.agg [(.int .i64), (.int .i64), (.int .i64)]) [(.agg (.gen [(iN 0), (iN 10), (iN 12)])), (.agg (.gen [(iN 10), (iN 30), (iN 32)])), (.agg (.gen [(iN 20), (iN 50), (iN 51)]))]))], (.bool false), none⟩
theorem Zu4 : q182.ok := fct [q177, q176, q178, q179, q162, q180, q181] ⟨ZyX, Zjk, ZqQ, Zy0, Zlz, Zze, ZyZ, trivial⟩ (by kernel_rfl)
def q183 : Fact := ⟨91, [(.agg (.gen [(iN 0), (iN 12), (iN 10), (iN 32)]))], (iN 10), none⟩
theorem Zju : q183.ok := fct [] trivial (by kernel_rfl)
def q184 : Fact := ⟨89, [(.agg (.gen [(iN 0), (iN 12), (iN 10), (iN 32)])), (iN 0)], (iN 120), none⟩
theorem Zxt : q184.ok := fct [q183] ⟨Zju, trivial⟩ (by kernel_rfl)
def q185 : Fact := ⟨89, [(.agg (.gen [(iN 0), (iN 12), (iN 10), (iN 32)])), (iN 10)], (iN 320), none⟩
theorem Zxo : q185.ok := fct [q183] ⟨Zju, trivial⟩ (by kernel_rfl)
def q186 : Fact := ⟨89, [(.agg (.gen [(iN 0), (iN 12), (iN 10), (iN 32)])), (iN 20)], (iN 520), none⟩
theorem Zxk : q186.ok := fct [q183] ⟨Zju, trivial⟩ (by kernel_rfl)
def q187 : Fact := ⟨87, [(iN 520), (iN 500), (iN 510)], (.bool false), none⟩
theorem Zwy : q187.ok := fct [] trivial (by kernel_rfl)
def q188 : Fact := ⟨126, [(.agg (.gen [(iN 0), (iN 12), (iN 10), (iN 32)])), (.list (.big (.agg [(.int .i64), (.int .i64), (.int .i64)]) [(.agg (.gen [(iN 0), (iN 10), (iN 12)])), (.agg (.gen [(iN 10), (iN 30), (iN 32)])), (.agg (.gen [(iN 20), (iN 50), (iN 51)]))]))], (.bool false), none⟩
theorem Zva : q188.ok := fct [q184, q183, q178, q185, q172, q186, q187] ⟨Zxt, Zju, ZqQ, Zxo, ZoZ, Zxk, Zwy, trivial⟩ (by kernel_rfl)
def q189 : Fact := ⟨91, [(.agg (.gen [(iN 0), (iN 10), (iN 20), (iN 50)]))], (iN 20), none⟩
theorem ZfS : q189.ok := fct [] trivial (by kernel_rfl)
def q190 : Fact := ⟨89, [(.agg (.gen [(iN 0), (iN 10), (iN 20), (iN 50)])), (iN 0)], (iN 200), none⟩
theorem ZxL : q190.ok := fct [q189] ⟨ZfS, trivial⟩ (by kernel_rfl)
def q191 : Fact := ⟨87, [(iN 200), (iN 200), (iN 240)], (.bool true), none⟩
theorem Zqj : q191.ok := fct [] trivial (by kernel_rfl)
def q192 : Fact := ⟨89, [(.agg (.gen [(iN 0), (iN 10), (iN 20), (iN 50)])), (iN 10)], (iN 600), none⟩
theorem ZyB : q192.ok := fct [q189] ⟨ZfS, trivial⟩ (by kernel_rfl)
def q193 : Fact := ⟨87, [(iN 600), (iN 600), (iN 640)], (.bool true), none⟩
theorem ZvF : q193.ok := fct [] trivial (by kernel_rfl)
def q194 : Fact := ⟨89, [(.agg (.gen [(iN 0), (iN 10), (iN 20), (iN 50)])), (iN 20)], (iN 1000), none⟩
theorem ZyW : q194.ok := fct [q189] ⟨ZfS, trivial⟩ (by kernel_rfl)
def q195 : Fact := ⟨87, [(iN 1000), (iN 1000), (iN 1020)], (.bool true), none⟩
theorem Zq0 : q195.ok := fct [] trivial (by kernel_rfl)
def q196 : Fact := ⟨126, [(.agg (.gen [(iN 0), (iN 10), (iN 20), (iN 50)])), (.list (.big (.agg [(.int .i64), (.int .i64), (.int .i64)]) [(.agg (.gen [(iN 0), (iN 10), (iN 12)])), (.agg (.gen [(iN 10), (iN 30), (iN 32)])), (.agg (.gen [(iN 20), (iN 50), (iN 51)]))]))], (.bool true), none⟩
theorem ZuV : q196.ok := fct [q190, q189, q191, q192, q193, q194, q195] ⟨ZxL, ZfS, Zqj, ZyB, ZvF, ZyW, Zq0, trivial⟩ (by kernel_rfl)
def q197 : Fact := ⟨89, [(.agg (.gen [(iN 0), (iN 10), (iN 20), (iN 50)])), (iN 30)], (iN 1400), none⟩
theorem Zvx : q197.ok := fct [q189] ⟨ZfS, trivial⟩ (by kernel_rfl)
def q198 : Fact := ⟨90, [(iN 1400), (iN 20)], (iN 70), none⟩
theorem Zwi : q198.ok := fct [] trivial (by kernel_rfl)
def q199 : Fact := ⟨90, [(iN (-1400)), (iN 20)], (iN (-70)), none⟩
theorem Zwu : q199.ok := fct [] trivial (by kernel_rfl)
def q200 : Fact := ⟨91, [(.agg (.gen [(iN 0), (iN 10), (iN 20), (iN 51)]))], (iN 20), none⟩
theorem Zgk : q200.ok := fct [] trivial (by kernel_rfl)
def q201 : Fact := ⟨89, [(.agg (.gen [(iN 0), (iN 10), (iN 20), (iN 51)])), (iN 0)], (iN 200), none⟩
theorem ZvV : q201.ok := fct [q200] ⟨Zgk, trivial⟩ (by kernel_rfl)
def q202 : Fact := ⟨89, [(.agg (.gen [(iN 0), (iN 10), (iN 20), (iN 51)])), (iN 10)], (iN 610), none⟩
theorem Zym : q202.ok := fct [q200] ⟨Zgk, trivial⟩ (by kernel_rfl)
def q203 : Fact := ⟨87, [(iN 610), (iN 600), (iN 640)], (.bool true), none⟩
theorem Zy9 : q203.ok := fct [] trivial (by kernel_rfl)
def q204 : Fact := ⟨89, [(.agg (.gen [(iN 0), (iN 10), (iN 20), (iN 51)])), (iN 20)], (iN 1020), none⟩
theorem ZyP : q204.ok := fct [q200] ⟨Zgk, trivial⟩ (by kernel_rfl)
def q205 : Fact := ⟨87, [(iN 1020), (iN 1000), (iN 1020)], (.bool true), none⟩
theorem Zp5 : q205.ok := fct [] trivial (by kernel_rfl)
def q206 : Fact := ⟨126, [(.agg (.gen [(iN 0), (iN 10), (iN 20), (iN 51)])), (.list (.big (.agg [(.int .i64), (.int .i64), (.int .i64)]) [(.agg (.gen [(iN 0), (iN 10), (iN 12)])), (.agg (.gen [(iN 10), (iN 30), (iN 32)])), (.agg (.gen [(iN 20), (iN 50), (iN 51)]))]))], (.bool true), none⟩
theorem Zu0 : q206.ok := fct [q201, q200, q191, q202, q203, q204, q205] ⟨ZvV, Zgk, Zqj, Zym, Zy9, ZyP, Zp5, trivial⟩ (by kernel_rfl)
def q207 : Fact := ⟨89, [(.agg (.gen [(iN 0), (iN 10), (iN 20), (iN 51)])), (iN 30)], (iN 1430), none⟩
theorem Zve : q207.ok := fct [q200] ⟨Zgk, trivial⟩ (by kernel_rfl)
def q208 : Fact := ⟨90, [(iN 1430), (iN 20)], (iN 71), none⟩
theorem ZxJ : q208.ok := fct [] trivial (by kernel_rfl)
def q209 : Fact := ⟨90, [(iN (-1430)), (iN 20)], (iN (-72)), none⟩
theorem Zxx : q209.ok := fct [] trivial (by kernel_rfl)
def q210 : Fact := ⟨91, [(.agg (.gen [(iN 0), (iN 12), (iN 20), (iN 50)]))], (iN 20), none⟩
theorem ZfP : q210.ok := fct [] trivial (by kernel_rfl)
def q211 : Fact := ⟨89, [(.agg (.gen [(iN 0), (iN 12), (iN 20), (iN 50)])), (iN 0)], (iN 240), none⟩
theorem ZwL : q211.ok := fct [q210] ⟨ZfP, trivial⟩ (by kernel_rfl)
def q212 : Fact := ⟨87, [(iN 240), (iN 200), (iN 240)], (.bool true), none⟩
theorem Zpe : q212.ok := fct [] trivial (by kernel_rfl)
def q213 : Fact := ⟨89, [(.agg (.gen [(iN 0), (iN 12), (iN 20), (iN 50)])), (iN 10)], (iN 620), none⟩
theorem Zy2 : q213.ok := fct [q210] ⟨ZfP, trivial⟩ (by kernel_rfl)
def q214 : Fact := ⟨87, [(iN 620), (iN 600), (iN 640)], (.bool true), none⟩
theorem ZwP : q214.ok := fct [] trivial (by kernel_rfl)
def q215 : Fact := ⟨89, [(.agg (.gen [(iN 0), (iN 12), (iN 20), (iN 50)])), (iN 20)], (iN 1000), none⟩
theorem Zxn : q215.ok := fct [q210] ⟨ZfP, trivial⟩ (by kernel_rfl)
def q216 : Fact := ⟨126, [(.agg (.gen [(iN 0), (iN 12), (iN 20), (iN 50)])), (.list (.big (.agg [(.int .i64), (.int .i64), (.int .i64)]) [(.agg (.gen [(iN 0), (iN 10), (iN 12)])), (.agg (.gen [(iN 10), (iN 30), (iN 32)])), (.agg (.gen [(iN 20), (iN 50), (iN 51)]))]))], (.bool true), none⟩
theorem Zyv : q216.ok := fct [q211, q210, q212, q213, q214, q215, q195] ⟨ZwL, ZfP, Zpe, Zy2, ZwP, Zxn, Zq0, trivial⟩ (by kernel_rfl)
def q217 : Fact := ⟨89, [(.agg (.gen [(iN 0), (iN 12), (iN 20), (iN 50)])), (iN 30)], (iN 1380), none⟩
theorem ZwU : q217.ok := fct [q210] ⟨ZfP, trivial⟩ (by kernel_rfl)
def q218 : Fact := ⟨90, [(iN 1380), (iN 20)], (iN 69), none⟩
theorem ZvO : q218.ok := fct [] trivial (by kernel_rfl)
def q219 : Fact := ⟨90, [(iN (-1380)), (iN 20)], (iN (-69)), none⟩
theorem ZyS : q219.ok := fct [] trivial (by kernel_rfl)
def q220 : Fact := ⟨91, [(.agg (.gen [(iN 0), (iN 12), (iN 20), (iN 51)]))], (iN 20), none⟩
theorem ZfV : q220.ok := fct [] trivial (by kernel_rfl)
def q221 : Fact := ⟨89, [(.agg (.gen [(iN 0), (iN 12), (iN 20), (iN 51)])), (iN 0)], (iN 240), none⟩
theorem Zwf : q221.ok := fct [q220] ⟨ZfV, trivial⟩ (by kernel_rfl)
def q222 : Fact := ⟨89, [(.agg (.gen [(iN 0), (iN 12), (iN 20), (iN 51)])), (iN 10)], (iN 630), none⟩
theorem ZyY : q222.ok := fct [q220] ⟨ZfV, trivial⟩ (by kernel_rfl)
def q223 : Fact := ⟨87, [(iN 630), (iN 600), (iN 640)], (.bool true), none⟩
theorem Zwx : q223.ok := fct [] trivial (by kernel_rfl)
def q224 : Fact := ⟨89, [(.agg (.gen [(iN 0), (iN 12), (iN 20), (iN 51)])), (iN 20)], (iN 1020), none⟩
theorem ZyT : q224.ok := fct [q220] ⟨ZfV, trivial⟩ (by kernel_rfl)
def q225 : Fact := ⟨126, [(.agg (.gen [(iN 0), (iN 12), (iN 20), (iN 51)])), (.list (.big (.agg [(.int .i64), (.int .i64), (.int .i64)]) [(.agg (.gen [(iN 0), (iN 10), (iN 12)])), (.agg (.gen [(iN 10), (iN 30), (iN 32)])), (.agg (.gen [(iN 20), (iN 50), (iN 51)]))]))], (.bool true), none⟩
theorem Zx5 : q225.ok := fct [q221, q220, q212, q222, q223, q224, q205] ⟨Zwf, ZfV, Zpe, ZyY, Zwx, ZyT, Zp5, trivial⟩ (by kernel_rfl)
def q226 : Fact := ⟨89, [(.agg (.gen [(iN 0), (iN 12), (iN 20), (iN 51)])), (iN 30)], (iN 1410), none⟩
theorem ZwM : q226.ok := fct [q220] ⟨ZfV, trivial⟩ (by kernel_rfl)
def q227 : Fact := ⟨90, [(iN 1410), (iN 20)], (iN 70), none⟩
theorem ZwX : q227.ok := fct [] trivial (by kernel_rfl)
def q228 : Fact := ⟨90, [(iN (-1410)), (iN 20)], (iN (-71)), none⟩
theorem Zvo : q228.ok := fct [] trivial (by kernel_rfl)
def q229 : Fact := ⟨91, [(.agg (.gen [(iN 10), (iN 30), (iN 20), (iN 50)]))], (iN 10), none⟩
theorem ZfT : q229.ok := fct [] trivial (by kernel_rfl)
def q230 : Fact := ⟨89, [(.agg (.gen [(iN 10), (iN 30), (iN 20), (iN 50)])), (iN 0)], (iN 100), none⟩
theorem ZvX : q230.ok := fct [q229] ⟨ZfT, trivial⟩ (by kernel_rfl)
def q231 : Fact := ⟨89, [(.agg (.gen [(iN 10), (iN 30), (iN 20), (iN 50)])), (iN 10)], (iN 300), none⟩
theorem ZwF : q231.ok := fct [q229] ⟨ZfT, trivial⟩ (by kernel_rfl)
def q232 : Fact := ⟨89, [(.agg (.gen [(iN 10), (iN 30), (iN 20), (iN 50)])), (iN 20)], (iN 500), none⟩
theorem Zxg : q232.ok := fct [q229] ⟨ZfT, trivial⟩ (by kernel_rfl)
def q233 : Fact := ⟨126, [(.agg (.gen [(iN 10), (iN 30), (iN 20), (iN 50)])), (.list (.big (.agg [(.int .i64), (.int .i64), (.int .i64)]) [(.agg (.gen [(iN 0), (iN 10), (iN 12)])), (.agg (.gen [(iN 10), (iN 30), (iN 32)])), (.agg (.gen [(iN 20), (iN 50), (iN 51)]))]))], (.bool true), none⟩
theorem Zyg : q233.ok := fct [q230, q229, q160, q231, q162, q232, q164] ⟨ZvX, ZfT, Zlo, ZwF, Zlz, Zxg, Zpm, trivial⟩ (by kernel_rfl)
def q234 : Fact := ⟨89, [(.agg (.gen [(iN 10), (iN 30), (iN 20), (iN 50)])), (iN 30)], (iN 700), none⟩
theorem Zv6 : q234.ok := fct [q229] ⟨ZfT, trivial⟩ (by kernel_rfl)
def q235 : Fact := ⟨91, [(.agg (.gen [(iN 10), (iN 30), (iN 20), (iN 51)]))], (iN 10), none⟩
theorem ZqD : q235.ok := fct [] trivial (by kernel_rfl)
def q236 : Fact := ⟨89, [(.agg (.gen [(iN 10), (iN 30), (iN 20), (iN 51)])), (iN 0)], (iN 90), none⟩
theorem Zwl : q236.ok := fct [q235] ⟨ZqD, trivial⟩ (by kernel_rfl)
def q237 : Fact := ⟨87, [(iN 90), (iN 100), (iN 120)], (.bool false), none⟩
theorem Zzi : q237.ok := fct [] trivial (by kernel_rfl)
def q238 : Fact := ⟨126, [(.agg (.gen [(iN 10), (iN 30), (iN 20), (iN 51)])), (.list (.big (.agg [(.int .i64), (.int .i64), (.int .i64)]) [(.agg (.gen [(iN 0), (iN 10), (iN 12)])), (.agg (.gen [(iN 10), (iN 30), (iN 32)])), (.agg (.gen [(iN 20), (iN 50), (iN 51)]))]))], (.bool false), none⟩
theorem ZxV : q238.ok := fct [q236, q235, q237] ⟨Zwl, ZqD, Zzi, trivial⟩ (by kernel_rfl)
def q239 : Fact := ⟨91, [(.agg (.gen [(iN 10), (iN 32), (iN 20), (iN 50)]))], (iN 10), none⟩
theorem Zp4 : q239.ok := fct [] trivial (by kernel_rfl)
def q240 : Fact := ⟨89, [(.agg (.gen [(iN 10), (iN 32), (iN 20), (iN 50)])), (iN 0)], (iN 140), none⟩
theorem Zw5 : q240.ok := fct [q239] ⟨Zp4, trivial⟩ (by kernel_rfl)
def q241 : Fact := ⟨87, [(iN 140), (iN 100), (iN 120)], (.bool false), none⟩
theorem ZyE : q241.ok := fct [] trivial (by kernel_rfl)
def q242 : Fact := ⟨126, [(.agg (.gen [(iN 10), (iN 32), (iN 20), (iN 50)])), (.list (.big (.agg [(.int .i64), (.int .i64), (.int .i64)]) [(.agg (.gen [(iN 0), (iN 10), (iN 12)])), (.agg (.gen [(iN 10), (iN 30), (iN 32)])), (.agg (.gen [(iN 20), (iN 50), (iN 51)]))]))], (.bool false), none⟩
theorem ZvY : q242.ok := fct [q240, q239, q241] ⟨Zw5, Zp4, ZyE, trivial⟩ (by kernel_rfl)
def q243 : Fact := ⟨91, [(.agg (.gen [(iN 10), (iN 32), (iN 20), (iN 51)]))], (iN 10), none⟩
theorem Zo7 : q243.ok := fct [] trivial (by kernel_rfl)
def q244 : Fact := ⟨89, [(.agg (.gen [(iN 10), (iN 32), (iN 20), (iN 51)])), (iN 0)], (iN 130), none⟩
theorem Zyt : q244.ok := fct [q243] ⟨Zo7, trivial⟩ (by kernel_rfl)
def q245 : Fact := ⟨87, [(iN 130), (iN 100), (iN 120)], (.bool false), none⟩
theorem Zvs : q245.ok := fct [] trivial (by kernel_rfl)
def q246 : Fact := ⟨126, [(.agg (.gen [(iN 10), (iN 32), (iN 20), (iN 51)])), (.list (.big (.agg [(.int .i64), (.int .i64), (.int .i64)]) [(.agg (.gen [(iN 0), (iN 10), (iN 12)])), (.agg (.gen [(iN 10), (iN 30), (iN 32)])), (.agg (.gen [(iN 20), (iN 50), (iN 51)]))]))], (.bool false), none⟩
theorem ZxC : q246.ok := fct [q244, q243, q245] ⟨Zyt, Zo7, Zvs, trivial⟩ (by kernel_rfl)
def q247 : Fact := ⟨23, [(.list (.big (.agg [(.int .i64), (.int .i64), (.int .i64)]) [(.agg (.gen [(iN 0), (iN 10), (iN 12)])), (.agg (.gen [(iN 10), (iN 30), (iN 32)])), (.agg (.gen [(iN 20), (iN 50), (iN 51)]))])), (iN 30)], (.tup [(.agg (.gen [(iN 69), (iN 72)])), (iN 0)]), none⟩
theorem ZxB : q247.ok := fct [q153, q157, q4, q32, q165, q166, q158, q167, q168, q175, q182, q188, q196, q197, q189, q198, q199, q206, q207, q200, q208, q209, q216, q217, q210, q218, q219, q225, q226, q220, q227, q228, q233, q234, q229, q238, q242, q246] ⟨ZoY, ZvD, Zfs, ZkN, Zy5, ZwV, ZfN, ZyA, Zw1, Zvm, Zu4, Zva, ZuV, Zvx, ZfS, Zwi, Zwu, Zu0, Zve, Zgk, ZxJ, Zxx, Zyv, ZwU, ZfP, ZvO, ZyS, Zx5, ZwM, ZfV, ZwX, Zvo, Zyg, Zv6, ZfT, ZxV, ZvY, ZxC, trivial⟩ (by kernel_rfl)
def q248 : Fact := ⟨67, [(.list (.ints .i64 [3, 255, 0, 0])), (.list (.ints .i64 [3, 255, 0, 0]))], (.bool true), none⟩
theorem ZwC : q248.ok := fct [] trivial (by kernel_rfl)
def q249 : Fact := ⟨67, [(.list (.ints .i64 [1, 2])), (.list (.ints .i64 [1, 2]))], (.bool true), none⟩
theorem ZxZ : q249.ok := fct [] trivial (by kernel_rfl)
def q250 : Fact := ⟨81, [(.agg (.gen [(iN 9), (iN 0), (.list (.ints .i64 [1, 2]))])), (.agg (.gen [(iN 9), (iN 0), (.list (.ints .i64 [1, 2]))]))], (.bool true), none⟩
theorem Zvk : q250.ok := fct [q249] ⟨ZxZ, trivial⟩ (by kernel_rfl)
def q251 : Fact := ⟨67, [(.list (.ints .i64 [3])), (.list (.ints .i64 [3]))], (.bool true), none⟩
theorem ZyM : q251.ok := fct [] trivial (by kernel_rfl)
def q252 : Fact := ⟨81, [(.agg (.gen [(iN 9), (iN 1), (.list (.ints .i64 [3]))])), (.agg (.gen [(iN 9), (iN 1), (.list (.ints .i64 [3]))]))], (.bool true), none⟩
theorem Zvl : q252.ok := fct [q251] ⟨ZyM, trivial⟩ (by kernel_rfl)
def q253 : Fact := ⟨21, [(.list (.gen [(.agg (.gen [(iN 9), (iN 0), (.list (.ints .i64 [1, 2]))])), (.agg (.gen [(iN 9), (iN 1), (.list (.ints .i64 [3]))]))])), (.list (.gen [(.agg (.gen [(iN 9), (iN 0), (.list (.ints .i64 [1, 2]))])), (.agg (.gen [(iN 9), (iN 1), (.list (.ints .i64 [3]))]))]))], (.bool true), none⟩
theorem Zvn : q253.ok := fct [q250, q252] ⟨Zvk, Zvl, trivial⟩ (by kernel_rfl)
def q254 : Fact := ⟨14, [], (.bool true), none⟩
theorem Zxq : q254.ok := fct [q22, q23, q24, q68, q75, q116, q94, q105, q101, q104, q102, q103, q106, q108, q109, q110, q112, q113, q114, q115, q122, q156, q247, q248, q253] ⟨ZCP, ZEU, Zz6, ZGm, ZEh, ZvB, ZuA, ZpN, Zo9, ZpX, Zln, Zlg, ZoH, ZqX, Zq1, Zra, Zp9, Zqc, ZqP, ZpG, ZxX, Zvt, ZxB, ZwC, Zvn, trivial⟩ (by kernel_rfl)
end Go.Proofs.Ytjhdnpmojhkbjaa
/- Paths of functions, printed by the explorer (Gx). No condition. -/
namespace Go.Proofs.Ytjhdnpmojhkbjaa
set_option maxRecDepth 100000
set_option linter.unusedVariables false
def ZFL (a : Int) (b : Int) : AFrame := { fn := 18, N := 13, env := [(0, AV.agg (Row.gen [AV.int .i64 a, AV.int .i64 b]))], todo := [.code a18.code], defs := [], rnd := none, ret := false, res := [ARes.tmp 2] }
def ZJI (a : Int) (b : Int) : List AFrame := [(ZFL a b)]
theorem ZxD (a : Int) (b : Int) : Zal tab 18 [AV.agg (Row.gen [AV.int .i64 a, AV.int .i64 b])] = some (ZFL a b) := rfl
theorem ZIJ (A : Ar) (a b : Int) : ZaD A tab B1 26 [true, true, true, true, true, true] 18 (ZJI a b) [] =
  some (tr [12, 7] [A.not (decide (4 ≤ a ∧ a ≤ 24))],
   AV.int .i64 2, none) := by kernel_rfl
theorem ZHn (A : Ar) (a b : Int) : ZaD A tab B1 26 [false, false, false, false, false, true] 18 (ZJI a b) [] =
  some (tr [2, 9, 7] [A.not (decide (1 ≤ b ∧ b ≤ 4)), !A.not (decide (4 ≤ a ∧ a ≤ 24))],
   AV.int .i64 2, none) := by kernel_rfl
theorem ZJG (A : Ar) (a b : Int) : ZaD A tab B1 27 [false, false, false, false, false, false] 18 (ZJI a b) [] =
  some (tr [2, 9, 7] [!A.not (decide (1 ≤ b ∧ b ≤ 4)), !A.not (decide (4 ≤ a ∧ a ≤ 24))],
   AV.int .i64 0, none) := by kernel_rfl
def ZCh (a : Int) (b : Int) (n : Int) : AFrame := { fn := 19, N := 11, env := [(0, AV.agg (Row.gen [AV.int .i64 a, AV.int .i64 b])), (1, AV.int .i64 n)], todo := [.code a19.code], defs := [], rnd := none, ret := false, res := [ARes.tmp 4] }
def ZKm (a : Int) (b : Int) (n : Int) : List AFrame := [(ZCh a b n)]
theorem Zvy (a : Int) (b : Int) (n : Int) : Zal tab 19 [AV.agg (Row.gen [AV.int .i64 a, AV.int .i64 b]), AV.int .i64 n] = some (ZCh a b n) := rfl
theorem ZGN (A : Ar) (a b n : Int) : ZaD A tab B1 21 [true] 19 (ZKm a b n) [] =
  some (tr [2, 2, 5] [A.not (decide (0 ≤ n ∧ n ≤ A.sub b 1)), A.inR .i64 (A.sub b 1)],
   AV.int .i64 6, none) := by kernel_rfl
theorem ZI7 (A : Ar) (a b n : Int) : ZaD A tab B1 22 [false] 19 (ZKm a b n) [] =
  some (tr [2, 2, 5] [!A.not (decide (0 ≤ n ∧ n ≤ A.sub b 1)), A.inR .i64 (A.sub b 1)],
   AV.int .i64 0, none) := by kernel_rfl
def ZDr (a : Int) (b : Int) : AFrame := { fn := 63, N := 12, env := [(0, AV.agg (Row.gen [AV.int .i64 a, AV.int .i64 b]))], todo := [.code a63.code], defs := [], rnd := none, ret := false, res := [ARes.tmp 2] }
def ZJ2 (a : Int) (b : Int) : List AFrame := [(ZDr a b)]
theorem ZwB (a : Int) (b : Int) : Zal tab 63 [AV.agg (Row.gen [AV.int .i64 a, AV.int .i64 b])] = some (ZDr a b) := rfl
theorem ZHg (A : Ar) (a b : Int) : ZaD A tab B1 20 [true, true, true, true] 63 (ZJ2 a b) [] =
  some (tr [10, 6] [decide (4 ≤ a ∧ a ≤ 24)],
   AV.int .i64 (Zaz (decide (1 ≤ b ∧ b ≤ 4)) 2), none) := by kernel_rfl
theorem ZJE (A : Ar) (a b : Int) : ZaD A tab B1 20 [false, false, false, false] 63 (ZJ2 a b) [] =
  some (tr [10, 6] [!decide (4 ≤ a ∧ a ≤ 24)],
   AV.int .i64 2, none) := by kernel_rfl
def ZuP (a : Int) (b : Int) (n : Int) : AFrame := { fn := 131, N := 12, env := [(0, AV.agg (Row.gen [AV.int .i64 a, AV.int .i64 b])), (1, AV.int .i64 n)], todo := [.code a131.code], defs := [], rnd := none, ret := false, res := [ARes.tmp 4] }
def ZH3 (a : Int) (b : Int) (n : Int) : List AFrame := [(ZuP a b n)]
theorem Zrv (a : Int) (b : Int) (n : Int) : Zal tab 131 [AV.agg (Row.gen [AV.int .i64 a, AV.int .i64 b]), AV.int .i64 n] = some (ZuP a b n) := rfl
theorem ZE9 (A : Ar) (a b n : Int) : ZaD A tab B1 18 [] 131 (ZH3 a b n) [] =
  some (tr [11] [],
   AV.int .i64 (Zaz (decide (0 ≤ n ∧ n ≤ Go.IntKind.wrap .i64 (A.sub b 1))) 6), none) := by kernel_rfl
def ZCN (xs : List Int) : AFrame := { fn := 94, N := 5, env := [(0, AV.list (.ints .i64 xs))], todo := [.code a94.code], defs := [], rnd := none, ret := false, res := [ARes.tmp 2] }
def ZLO (xs : List Int) : List AFrame := [(ZCN xs)]
theorem Zzf (xs : List Int) : Zal tab 94 [AV.list (.ints .i64 xs)] = some (ZCN xs) := rfl
theorem ZHP (A : Ar) (xs : List Int) : ZaD A tab B1 11 [] 94 (ZLO xs) [] =
  some (tr [2, 2] [decide (List.length xs ≤ 1000000)],
   AV.int .i64 (ZaQ xs), none) := by kernel_rfl
def Zt2 (xs : List AV) : AFrame := { fn := 113, N := 36, env := [(0, AV.list (Row.big (Sh.ints .i64) xs))], todo := [.code a113.code], defs := [], rnd := none, ret := false, res := [ARes.tmp 2] }
def ZJM (xs : List AV) : List AFrame := [(Zt2 xs)]
theorem Zse (xs : List AV) : Zal tab 113 [AV.list (Row.big (Sh.ints .i64) xs)] = some (Zt2 xs) := rfl
def Zfb (xs : List AV) (n0 n1 n2 : Int) : List AFrame := [{ fn := 113, N := 36, env := [(0, AV.list (Row.big (Sh.ints .i64) xs)), (3, AV.int .i64 n1), (9, AV.list (Row.big (Sh.ints .i64) xs)), (10, AV.int .i64 n0), (11, AV.int .i64 n2)], todo := .code (ACode.gh [] ZsY) :: ZFc, defs := [], rnd := none, ret := false, res := [ARes.tmp 2] }]
def Zew (xs : List AV) (n0 : Int) (n1 : Int) (n2 : Int) : Zaa := []
abbrev Zgt (xs : List AV) (n0 : Int) (n1 : Int) (n2 : Int) : List AFrame × Zaa := (Zfb xs n0 n1 n2, Zew xs n0 n1 n2)
def Ze5 (xs : List AV) (j3 : Nat) (n4 : Int) (l5 : List Int) (n6 : Int) : List AFrame := [{ fn := 113, N := 36, env := [(6, AV.slc 136023 0 0 j3 none), (25, AV.list (Row.big (Sh.ints .i64) xs)), (26, AV.int .i64 n4), (27, AV.int .i64 n6)], todo := .code (ACode.gh [] Ztz) :: ZDD, defs := [], rnd := none, ret := false, res := [ARes.tmp 2] }]
def Zeq (xs : List AV) (j3 : Nat) (n4 : Int) (l5 : List Int) (n6 : Int) : Zaa := [(136023, { base := 0, blks := [Blk.row 3 1 (.ints .i64 l5)] })]
abbrev ZgM (xs : List AV) (j3 : Nat) (n4 : Int) (l5 : List Int) (n6 : Int) : List AFrame × Zaa := (Ze5 xs j3 n4 l5 n6, Zeq xs j3 n4 l5 n6)
theorem ZCs (A : Ar) (xs : List AV) : Zac A tab B1 18 [] (ZJM xs) [] =
  some (tr [5] [],
   Zgt (xs) (A.int (A.lenA xs)) (0) (0)) := by kernel_rfl
theorem ZtM (A : Ar) (xs : List AV) (n0 n1 n2 : Int) : Zac A tab B1 38 [true, false] (Zfb xs n0 n1 n2) (Zew xs n0 n1 n2) =
  some (tr [1, 0, 3, 5, 0, 1] [A.inR .i64 (A.add n2 1), !A.lt (A.add n1 (A.int (A.len (AV.toIs (A.nthA xs (A.nat n2)))))) 0, A.inR .i64 (A.add n1 (A.int (A.len (AV.toIs (A.nthA xs (A.nat n2)))))), Zab (Zab (A.le 0 n2) (Nat.blt (A.nat n2) (A.lenA xs))) true, A.lt n2 n0],
   Zgt (xs) (n0) (A.add n1 (A.int (A.len (AV.toIs (A.nthA xs (A.nat n2)))))) (A.add n2 1)) := by kernel_rfl
theorem ZCO (A : Ar) (xs : List AV) (n0 n1 n2 : Int) : Zac A tab B1 74 [false, false, true] (Zfb xs n0 n1 n2) (Zew xs n0 n1 n2) =
  some (tr [8, 2, 1, 3, 3, 0, 5, 4, 1] [Zab (A.le 0 (A.int 0)) (Zab (Zab (Nat.ble 0 (A.nat (A.int 0))) (Nat.ble (A.nat (A.int 0)) (A.len (A.rep (A.nat (A.sub n1 (A.sub 0 (A.int 0)))) 0)))) true), Zab (A.lt 0 (A.sub n1 (A.sub 0 (A.int 0)))) (A.le (A.sub n1 (A.sub 0 (A.int 0))) 4294967296), Zab (A.le 0 0) (Zab (Zab (Nat.ble 0 (A.nat 0)) (Nat.ble (A.nat 0) 0)) true), A.lt 0 (A.sub n1 (A.sub 0 (A.int 0))), A.inR .i64 (A.sub n1 (A.sub 0 (A.int 0))), A.inR .i64 (A.sub 0 (A.int 0)), !A.lt n1 0, !A.lt n2 n0],
   ZgM (xs) (A.nat (A.int 0) - 0) (A.int (A.lenA xs)) (A.rep (A.nat (A.sub n1 (A.sub 0 (A.int 0)))) 0) (0)) := by kernel_rfl
theorem Zuc (A : Ar) (xs : List AV) (j3 : Nat) (n4 : Int) (l5 : List Int) (n6 : Int) : Zac A tab B1 29 [true] (Ze5 xs j3 n4 l5 n6) (Zeq xs j3 n4 l5 n6) =
  some (tr [1, 1, 4, 0, 1] [A.inR .i64 (A.add n6 1), Nat.ble (j3 + A.len (AV.toIs (A.nthA xs (A.nat n6)))) (A.len l5), Zab (Zab (A.le 0 n6) (Nat.blt (A.nat n6) (A.lenA xs))) true, A.lt n6 n4],
   ZgM (xs) (j3 + A.len (AV.toIs (A.nthA xs (A.nat n6)))) (n4) (A.app (A.app (A.sub3 l5 0 j3) (AV.toIs (A.nthA xs (A.nat n6)))) (A.sub3 l5 (j3 + A.len (AV.toIs (A.nthA xs (A.nat n6)))) (A.len l5))) (A.add n6 1)) := by kernel_rfl
theorem Zzy (A : Ar) (xs : List AV) (j3 : Nat) (n4 : Int) (l5 : List Int) (n6 : Int) : ZaD A tab B1 14 [false] 113 (Ze5 xs j3 n4 l5 n6) (Zeq xs j3 n4 l5 n6) =
  some (tr [0, 2, 1] [Zab (Nat.beq j3 (A.len l5)) true, !A.lt n6 n4],
   AV.row 0 0, some { e := 3, sz := 1, r := .ints .i64 l5 }) := by kernel_rfl
def ZBb (c : Int) (n : Int) (f : Int) (ds : List Int) : AFrame := { fn := 40, N := 8, env := [(0, AV.agg (Row.gen [AV.int .i64 c, AV.int .i64 n, AV.int .i64 f, AV.list (.ints .i64 ds)]))], todo := [.code a40.code], defs := [], rnd := none, ret := false, res := [ARes.cell 2 true 4] }
def ZL4 (c : Int) (n : Int) (f : Int) (ds : List Int) : List AFrame := [(ZBb c n f ds)]
theorem ZyL (c : Int) (n : Int) (f : Int) (ds : List Int) : Zal tab 40 [AV.agg (Row.gen [AV.int .i64 c, AV.int .i64 n, AV.int .i64 f, AV.list (.ints .i64 ds)])] = some (ZBb c n f ds) := rfl
theorem ZH5 (A : Ar) (c n f : Int) (ds : List Int) : ZaD A tab B1 19 [] 40 (ZL4 c n f ds) [] =
  some (tr [5, 4] [decide (List.length ds ≤ 4294967296)],
   AV.agg (Row.gen [.int .i64 c, .int .i64 n, .int .i64 f, .list (.ints .i64 ds)]), none) := by kernel_rfl
def Zue (n : Int) : AFrame := { fn := 100, N := 5, env := [(0, AV.int .i64 n)], todo := [.code a100.code], defs := [], rnd := none, ret := false, res := [ARes.tmp 2] }
def ZJf (n : Int) : List AFrame := [(Zue n)]
theorem Zrg (n : Int) : Zal tab 100 [AV.int .i64 n] = some (Zue n) := rfl
theorem Zz3 (A : Ar) (n : Int) : ZaD A tab B1 11 [] 100 (ZJf n) [] =
  some (tr [5] [],
   AV.bool (decide (0 ≤ n ∧ n ≤ 63)), none) := by kernel_rfl
def ZBM (n : Int) : AFrame := { fn := 93, N := 5, env := [(0, AV.int .i64 n)], todo := [.code a93.code], defs := [], rnd := none, ret := false, res := [ARes.tmp 2] }
def ZKK (n : Int) : List AFrame := [(ZBM n)]
theorem ZwS (n : Int) : Zal tab 93 [AV.int .i64 n] = some (ZBM n) := rfl
theorem ZH8 (A : Ar) (n : Int) : ZaD A tab B1 11 [] 93 (ZKK n) [] =
  some (tr [5] [],
   AV.bool (decide (0 ≤ n ∧ n ≤ 255)), none) := by kernel_rfl
end Go.Proofs.Ytjhdnpmojhkbjaa
/- Contracts as a list. No condition. -/
namespace Go.Proofs.Ytjhdnpmojhkbjaa
def wr (n : Int) : Int := Go.IntKind.wrap .i64 n
theorem ZCu {n : Int} (h : -9223372036854775808 ≤ n ∧ n ≤ 9223372036854775807) : wr n = n := Zdc (k := .i64) (by rw [Zv1]; exact decide_eq_true h)
def Zcj (a b : Int) : Bool := decide ((4 ≤ a ∧ a ≤ 24) ∧ 1 ≤ b ∧ b ≤ 4)
def ZaK (a b : Int) : Int := if Zcj a b = true then 0 else 2
def ZbS (b n : Int) : Int := if 0 ≤ n ∧ n ≤ b - 1 then 0 else 6
def Zcv (b n : Int) : Int := if 0 ≤ n ∧ n ≤ wr (b - 1) then 0 else 6
theorem Zor (a b : Int) : ZaI Try.prog 18 [.agg (.gen [.int .i64 a, .int .i64 b])] (.int .i64 (ZaK a b)) none :=
  start (ZxD a b) fun C hC => by
    by_cases h1 : 4 ≤ a ∧ a ≤ 24
    · by_cases h2 : 1 ≤ b ∧ b ≤ 4
      · exact fin hC Zdx (ZJG std a b) (by simp [h1, h2]) (by simp [ZaK, Zcj, h1, h2]) rfl
      · exact fin hC Zdx (ZHn std a b) (by simp [h1]; omega) (by simp [ZaK, Zcj, h2]) rfl
    · exact fin hC Zdx (ZIJ std a b) (by simp; omega) (by simp [ZaK, Zcj, h1]) rfl
theorem Zns (a b : Int) : ZaI Try.prog 63 [.agg (.gen [.int .i64 a, .int .i64 b])] (.int .i64 (ZaK a b)) none :=
  start (ZwB a b) fun C hC => by
    by_cases h1 : 4 ≤ a ∧ a ≤ 24
    · exact fin hC Zdx (ZHg std a b) (by simp [h1]) (by by_cases h2 : 1 ≤ b ∧ b ≤ 4 <;> simp [ZaK, Zcj, h1, h2, Zaz]) rfl
    · exact fin hC Zdx (ZJE std a b) (by simp; omega) (by simp [ZaK, Zcj, h1]) rfl
theorem Zqp (a b n : Int) (h : -1000000 ≤ b ∧ b ≤ 1000000) : ZaI Try.prog 19 [.agg (.gen [.int .i64 a, .int .i64 b]), .int .i64 n] (.int .i64 (ZbS b n)) none :=
  start (Zvy a b n) fun C hC => by
    by_cases h1 : 0 ≤ n ∧ n ≤ b - 1
    · exact fin hC Zdx (ZI7 std a b n) (by simp [h1.1]; omega) (by rw [ZbS, if_pos h1]) rfl
    · exact fin hC Zdx (ZGN std a b n) (by simp; exact ⟨decide_eq_false h1, by omega, by omega⟩) (by rw [ZbS, if_neg h1]) rfl
theorem Zn4 (a b n : Int) : ZaI Try.prog 131 [.agg (.gen [.int .i64 a, .int .i64 b]), .int .i64 n] (.int .i64 (Zcv b n)) none :=
  start (Zrv a b n) fun C hC => fin hC Zdx (ZE9 std a b n) (by simp) (by
    show AV.int .i64 (Zaz (decide (0 ≤ n ∧ n ≤ wr (b - 1))) 6) = _
    by_cases h : 0 ≤ n ∧ n ≤ wr (b - 1) <;> simp [Zcv, Zaz, h]) rfl
theorem Zn0 (xs : List Int) (h : xs.length ≤ 1000000) : ZaI Try.prog 94 [.list (.ints .i64 xs)] (.int .i64 (ZaQ xs)) none :=
  start (Zzf xs) fun C hC => fin hC Zdx (ZHP std xs) (by simp [h]) rfl rfl
theorem ZnW (x y : AV) (a b : List Int) (hx : x.toIs = a) (hy : y.toIs = b) (h : 0 < a.length + b.length ∧ a.length + b.length ≤ 1000000) : ZaI Try.prog 113 [.list (.big (.ints .i64) [x, y])] (.row 0 0) (some ⟨3, 1, .ints .i64 (a ++ b)⟩) :=
  start (Zse [x, y]) fun C hC => by
    refine go hC Zdx (ZCs std [x, y]) (by simp) ?_
    refine go hC Zdx (ZtM std [x, y] _ _ _) (by simp [hx]; omega) ?_
    refine go hC Zdx (ZtM std [x, y] _ _ _) (by simp [hx, hy]; omega) ?_
    refine go hC Zdx (ZCO std [x, y] _ _ _) (by simp [hx, hy]; omega) ?_
    refine go hC Zdx (Zuc std [x, y] _ _ _ _) (by simp [hx, hy]; omega) ?_
    refine go hC Zdx (Zuc std [x, y] _ _ _ _) (by simp [hx, hy]; omega) ?_
    refine fin hC Zdx (Zzy std [x, y] _ _ _ _) (by simp [hx, hy]; omega) rfl ?_
    simp [hx, hy]
    omega
theorem Zhl (a b : List Int) (h : 0 < a.length + b.length ∧ a.length + b.length ≤ 1000000) : ZaI Try.prog 113 [.list (.gen [.list (.ints .i64 a), .list (.ints .i64 b)])] (.list (.ints .i64 (a ++ b))) Zko := by
  have := Zi5 (ZnW (.list (.ints .i64 a)) (.list (.ints .i64 b)) a b rfl rfl h) rfl rfl
  exact Zm1 (xs := []) (ys := []) this rfl
theorem Zpw (c n f : Int) (ds : List Int) (h : ds.length ≤ 4294967296) : ZaI Try.prog 40 [.agg (.gen [.int .i64 c, .int .i64 n, .int .i64 f, .list (.ints .i64 ds)])] (.agg (.gen [.int .i64 c, .int .i64 n, .int .i64 f, .list (.ints .i64 ds)])) none :=
  start (ZyL c n f ds) fun C hC => fin hC Zdx (ZH5 std c n f ds) (by simp [h]) rfl rfl
theorem Zlc (n : Int) : ZaI Try.prog 100 [.int .i64 n] (.bool (decide (0 ≤ n ∧ n ≤ 63))) none :=
  start (Zrg n) fun C hC => fin hC Zdx (Zz3 std n) (by simp) rfl rfl
theorem ZqA (n : Int) : ZaI Try.prog 93 [.int .i64 n] (.bool (Zoz n)) none :=
  start (ZwS n) fun C hC => fin hC Zdx (ZH8 std n) (by simp) rfl rfl
def k100 : Ctr := ⟨100, 0, fun _ a => match a with | [.int .i64 n] => some (true, .bool (decide (0 ≤ n ∧ n ≤ 63)), none) | _ => none⟩
theorem Zwg : k100.OK Try.prog := fun pa args r fr h => by
  simp only [k100] at h
  split at h
  · cases h
    exact Zlc _
  · cases h
def k93 : Ctr := ⟨93, 0, fun _ a => match a with | [.int .i64 n] => some (true, .bool (Zoz n), none) | _ => none⟩
theorem ZBq : k93.OK Try.prog := fun pa args r fr h => by
  simp only [k93] at h
  split at h
  · cases h
    exact ZqA _
  · cases h
def k18 : Ctr := ⟨18, 0, fun _ a => match a with | [.agg (.gen [.int .i64 a, .int .i64 b])] => some (true, .int .i64 (ZaK a b), none) | _ => none⟩
theorem ZCv : k18.OK Try.prog := fun pa args r fr h => by
  simp only [k18] at h
  split at h
  · cases h
    exact Zor _ _
  · cases h
def k63 : Ctr := ⟨63, 0, fun _ a => match a with | [.agg (.gen [.int .i64 a, .int .i64 b])] => some (true, .int .i64 (ZaK a b), none) | _ => none⟩
theorem ZDm : k63.OK Try.prog := fun pa args r fr h => by
  simp only [k63] at h
  split at h
  · cases h
    exact Zns _ _
  · cases h
def k19 : Ctr := ⟨19, 0, fun _ a => match a with | [.agg (.gen [.int .i64 a, .int .i64 b]), .int .i64 n] => some (decide (-1000000 ≤ b ∧ b ≤ 1000000), .int .i64 (ZbS b n), none) | _ => none⟩
theorem ZCY : k19.OK Try.prog := fun pa args r fr h => by
  simp only [k19] at h
  split at h
  · simp only [Option.some.injEq, Prod.mk.injEq, decide_eq_true_eq] at h
    obtain ⟨h0, rfl, rfl⟩ := h
    exact Zqp _ _ _ h0
  · cases h
def k131 : Ctr := ⟨131, 0, fun _ a => match a with | [.agg (.gen [.int .i64 a, .int .i64 b]), .int .i64 n] => some (true, .int .i64 (Zcv b n), none) | _ => none⟩
theorem Zyu : k131.OK Try.prog := fun pa args r fr h => by
  simp only [k131] at h
  split at h
  · cases h
    exact Zn4 _ _ _
  · cases h
def k94 : Ctr := ⟨94, 0, fun _ a => match a with | [.list (.ints .i64 xs)] => some (decide (xs.length ≤ 1000000), .int .i64 (ZaQ xs), none) | _ => none⟩
theorem ZCr : k94.OK Try.prog := fun pa args r fr h => by
  simp only [k94] at h
  split at h
  · simp only [Option.some.injEq, Prod.mk.injEq, decide_eq_true_eq] at h
    obtain ⟨h0, rfl, rfl⟩ := h
    exact Zn0 _ h0
  · cases h
def k113 : Ctr := ⟨113, 0, fun _ a => match a with | [.list (.gen [.list (.ints .i64 a), .list (.ints .i64 b)])] => some (decide (0 < a.length + b.length ∧ a.length + b.length ≤ 1000000), .list (.ints .i64 (a ++ b)), Zko) | _ => none⟩
theorem Zu7 : k113.OK Try.prog := fun pa args r fr h => by
  simp only [k113] at h
  split at h
  · simp only [Option.some.injEq, Prod.mk.injEq, decide_eq_true_eq] at h
    obtain ⟨h0, rfl, rfl⟩ := h
    exact Zhl _ _ h0
  · cases h
def k40 : Ctr := ⟨40, 0, fun _ a => match a with | [.agg (.gen [.int .i64 c, .int .i64 n, .int .i64 f, .list (.ints .i64 ds)])] => some (decide (ds.length ≤ 4294967296), .agg (.gen [.int .i64 c, .int .i64 n, .int .i64 f, .list (.ints .i64 ds)]), none) | _ => none⟩
theorem ZzK : k40.OK Try.prog := fun pa args r fr h => by
  simp only [k40] at h
  split at h
  · simp only [Option.some.injEq, Prod.mk.injEq, decide_eq_true_eq] at h
    obtain ⟨h0, rfl, rfl⟩ := h
    exact Zpw _ _ _ _ h0
  · cases h
def B2 : List Ctr := [k100, k93, k18, k63, k19, k131, k94, k113, k40] ++ B1
theorem Zhm : Zas Try.prog B2 := ⟨Zwg, ⟨ZBq, ⟨ZCv, ⟨ZDm, ⟨ZCY, ⟨Zyu, ⟨ZCr, ⟨Zu7, ⟨ZzK, Zdx⟩⟩⟩⟩⟩⟩⟩⟩⟩
end Go.Proofs.Ytjhdnpmojhkbjaa
/- Paths of functions, printed by the explorer (Gx). No condition. -/
namespace Go.Proofs.Ytjhdnpmojhkbjaa
set_option maxRecDepth 100000
set_option linter.unusedVariables false
def ZCW (a : Int) (b : Int) (c : Int) (n : Int) (f : Int) (ds : List Int) : AFrame := { fn := 64, N := 40, env := [(0, AV.agg (Row.gen [AV.int .i64 a, AV.int .i64 b])), (1, AV.agg (Row.gen [AV.int .i64 c, AV.int .i64 n, AV.int .i64 f, AV.list (.ints .i64 ds)]))], todo := [.code a64.code], defs := [], rnd := none, ret := false, res := [ARes.tmp 4] }
def Zvg (a : Int) (b : Int) (c : Int) (n : Int) (f : Int) (ds : List Int) : List AFrame := [(ZCW a b c n f ds)]
theorem Zzd (a : Int) (b : Int) (c : Int) (n : Int) (f : Int) (ds : List Int) : Zal tab 64 [AV.agg (Row.gen [AV.int .i64 a, AV.int .i64 b]), AV.agg (Row.gen [AV.int .i64 c, AV.int .i64 n, AV.int .i64 f, AV.list (.ints .i64 ds)])] = some (ZCW a b c n f ds) := rfl
theorem ZJH (A : Ar) (a b c n f : Int) (ds : List Int) : ZaD A tab B2 27 [true] 64 (Zvg a b c n f ds) [] =
  some (tr [3, 3, 6] [A.not (A.eq (ZbS b c) 0), decide (-1000000 ≤ b ∧ b ≤ 1000000)],
   AV.int .i64 (ZbS b c), none) := by kernel_rfl
theorem ZIo (A : Ar) (a b c n f : Int) (ds : List Int) : ZaD A tab B2 51 [false, true, true, true, true, true, true, true, true, true, true, true] 64 (Zvg a b c n f ds) [] =
  some (tr [25, 5, 3, 6] [A.not (decide (0 ≤ n ∧ n ≤ 63)), !A.not (A.eq (ZbS b c) 0), decide (-1000000 ≤ b ∧ b ≤ 1000000)],
   AV.int .i64 2, none) := by kernel_rfl
theorem ZHo (A : Ar) (a b c n f : Int) (ds : List Int) : ZaD A tab B2 51 [false, false, false, false, false, false, false, false, false, true, true, true, false, true, false, true] 64 (Zvg a b c n f ds) [] =
  some (tr [2, 10, 6, 8, 5, 3, 6] [A.not (A.eq f 255), A.not (decide (0 ≤ f ∧ f ≤ A.sub a 1)), A.inR .i64 (A.sub a 1), !A.not (decide (0 ≤ n ∧ n ≤ 63)), !A.not (A.eq (ZbS b c) 0), decide (-1000000 ≤ b ∧ b ≤ 1000000)],
   AV.int .i64 2, none) := by kernel_rfl
theorem ZJg (A : Ar) (a b c n f : Int) (ds : List Int) : ZaD A tab B2 63 [false, false, false, false, false, false, false, false, false, true, true, true, false, true, false, false, true] 64 (Zvg a b c n f ds) [] =
  some (tr [2, 6, 10, 6, 8, 5, 3, 6] [A.not (A.eq (A.int (A.len ds)) a), !A.not (A.eq f 255), A.not (decide (0 ≤ f ∧ f ≤ A.sub a 1)), A.inR .i64 (A.sub a 1), !A.not (decide (0 ≤ n ∧ n ≤ 63)), !A.not (A.eq (ZbS b c) 0), decide (-1000000 ≤ b ∧ b ≤ 1000000)],
   AV.int .i64 10, none) := by kernel_rfl
theorem ZJK (A : Ar) (a b c n f : Int) (ds : List Int) : ZaD A tab B2 67 [false, false, false, false, false, false, false, false, false, true, true, true, false, true, false, false, false] 64 (Zvg a b c n f ds) [] =
  some (tr [2, 2, 6, 10, 6, 8, 5, 3, 6] [decide (List.length ds ≤ 1000000), !A.not (A.eq (A.int (A.len ds)) a), !A.not (A.eq f 255), A.not (decide (0 ≤ f ∧ f ≤ A.sub a 1)), A.inR .i64 (A.sub a 1), !A.not (decide (0 ≤ n ∧ n ≤ 63)), !A.not (A.eq (ZbS b c) 0), decide (-1000000 ≤ b ∧ b ≤ 1000000)],
   AV.int .i64 (ZaQ ds), none) := by kernel_rfl
theorem ZHx (A : Ar) (a b c n f : Int) (ds : List Int) : ZaD A tab B2 63 [false, false, false, false, false, false, false, false, false, false, false, false, false, false, false, false, true] 64 (Zvg a b c n f ds) [] =
  some (tr [2, 17, 6, 8, 5, 3, 6] [A.not (A.eq (A.int (A.len ds)) a), !A.not (decide (0 ≤ f ∧ f ≤ A.sub a 1)), A.inR .i64 (A.sub a 1), !A.not (decide (0 ≤ n ∧ n ≤ 63)), !A.not (A.eq (ZbS b c) 0), decide (-1000000 ≤ b ∧ b ≤ 1000000)],
   AV.int .i64 10, none) := by kernel_rfl
theorem ZG9 (A : Ar) (a b c n f : Int) (ds : List Int) : ZaD A tab B2 67 [false, false, false, false, false, false, false, false, false, false, false, false, false, false, false, false, false] 64 (Zvg a b c n f ds) [] =
  some (tr [2, 2, 17, 6, 8, 5, 3, 6] [decide (List.length ds ≤ 1000000), !A.not (A.eq (A.int (A.len ds)) a), !A.not (decide (0 ≤ f ∧ f ≤ A.sub a 1)), A.inR .i64 (A.sub a 1), !A.not (decide (0 ≤ n ∧ n ≤ 63)), !A.not (A.eq (ZbS b c) 0), decide (-1000000 ≤ b ∧ b ≤ 1000000)],
   AV.int .i64 (ZaQ ds), none) := by kernel_rfl
def ZtS (a : Int) (b : Int) (c : Int) (n : Int) (f : Int) (ds : List Int) : AFrame := { fn := 110, N := 40, env := [(0, AV.agg (Row.gen [AV.int .i64 a, AV.int .i64 b])), (1, AV.agg (Row.gen [AV.int .i64 c, AV.int .i64 n, AV.int .i64 f, AV.list (.ints .i64 ds)]))], todo := [.code a110.code], defs := [], rnd := none, ret := false, res := [ARes.tmp 4] }
def ZxA (a : Int) (b : Int) (c : Int) (n : Int) (f : Int) (ds : List Int) : List AFrame := [(ZtS a b c n f ds)]
theorem ZrV (a : Int) (b : Int) (c : Int) (n : Int) (f : Int) (ds : List Int) : Zal tab 110 [AV.agg (Row.gen [AV.int .i64 a, AV.int .i64 b]), AV.agg (Row.gen [AV.int .i64 c, AV.int .i64 n, AV.int .i64 f, AV.list (.ints .i64 ds)])] = some (ZtS a b c n f ds) := rfl
theorem ZDU (A : Ar) (a b c n f : Int) (ds : List Int) : ZaD A tab B2 10 [true, true] 110 (ZxA a b c n f ds) [] =
  some (tr [2, 0, 0, 16, 8, 11] [decide (List.length [Zcv b c, 0, Zaz (A.eq (A.int (A.len ds)) a) 10, ZaQ ds] ≤ 1000000), List.all [AV.int .i64 (Zcv b c), AV.int .i64 0, AV.int .i64 (Zaz (A.eq (A.int (A.len ds)) a) 10), AV.int .i64 (ZaQ ds)] fun x => AV.bx x && Nat.beq (Zae A x) 1, decide (List.length ds ≤ 1000000), decide (0 ≤ f ∧ f ≤ Go.IntKind.wrap .i64 (A.sub a 1)), decide (0 ≤ n ∧ n ≤ 63)],
   AV.int .i64 (Zbb [Zcv b c, 0, Zaz (A.eq (A.int (A.len ds)) a) 10, ZaQ ds]), none) := by kernel_rfl
theorem ZBz (A : Ar) (a b c n f : Int) (ds : List Int) : ZaD A tab B2 10 [true, false] 110 (ZxA a b c n f ds) [] =
  some (tr [2, 0, 0, 16, 8, 11] [decide (List.length [Zcv b c, Zaz (A.eq f 255) 2, Zaz (A.eq (A.int (A.len ds)) a) 10, ZaQ ds] ≤ 1000000), List.all [AV.int .i64 (Zcv b c), AV.int .i64 (Zaz (A.eq f 255) 2), AV.int .i64 (Zaz (A.eq (A.int (A.len ds)) a) 10), AV.int .i64 (ZaQ ds)] fun x => AV.bx x && Nat.beq (Zae A x) 1, decide (List.length ds ≤ 1000000), !decide (0 ≤ f ∧ f ≤ Go.IntKind.wrap .i64 (A.sub a 1)), decide (0 ≤ n ∧ n ≤ 63)],
   AV.int .i64 (Zbb [Zcv b c, Zaz (A.eq f 255) 2, Zaz (A.eq (A.int (A.len ds)) a) 10, ZaQ ds]), none) := by kernel_rfl
theorem ZFy (A : Ar) (a b c n f : Int) (ds : List Int) : ZaD A tab B2 10 [false] 110 (ZxA a b c n f ds) [] =
  some (tr [2, 0, 0, 24, 11] [decide (List.length [Zcv b c, 2, Zaz (A.eq (A.int (A.len ds)) a) 10, ZaQ ds] ≤ 1000000), List.all [AV.int .i64 (Zcv b c), AV.int .i64 2, AV.int .i64 (Zaz (A.eq (A.int (A.len ds)) a) 10), AV.int .i64 (ZaQ ds)] fun x => AV.bx x && Nat.beq (Zae A x) 1, decide (List.length ds ≤ 1000000), !decide (0 ≤ n ∧ n ≤ 63)],
   AV.int .i64 (Zbb [Zcv b c, 2, Zaz (A.eq (A.int (A.len ds)) a) 10, ZaQ ds]), none) := by kernel_rfl
end Go.Proofs.Ytjhdnpmojhkbjaa
/- Contracts as a list. No condition. -/
namespace Go.Proofs.Ytjhdnpmojhkbjaa
def okF (hi n f : Int) : Bool := decide ((0 ≤ n ∧ n ≤ 63) ∧ (0 ≤ f ∧ f ≤ hi ∨ f = 255))
def Zeo (a b c n f : Int) (ds : List Int) : Int := Zbb [Zcv b c, Zaz (okF (wr (a - 1)) n f) 2, Zaz (decide ((ds.length : Int) = a)) 10, ZaQ ds]
def Zd6 (a b c n f : Int) (ds : List Int) : Int := Zbb [ZbS b c, Zaz (okF (a - 1) n f) 2, Zaz (decide ((ds.length : Int) = a)) 10, ZaQ ds]
theorem ZhV {a b : Int} (h : Zcj a b = true) (c n f : Int) (ds : List Int) : Zeo a b c n f ds = Zd6 a b c n f ds := by
  simp only [Zcj, decide_eq_true_eq] at h
  unfold Zeo Zd6 Zcv ZbS
  rw [ZCu (n := b - 1) (by omega), ZCu (n := a - 1) (by omega)]
theorem ZCF (hi n f : Int) (h : ¬ (0 ≤ n ∧ n ≤ 63)) : okF hi n f = false := by simp [okF]; omega
theorem ZFC (hi n f : Int) (h : 0 ≤ n ∧ n ≤ 63) (h2 : 0 ≤ f ∧ f ≤ hi) : okF hi n f = true := by simp [okF]; omega
theorem ZEC (hi n f : Int) (h : 0 ≤ n ∧ n ≤ 63) (h2 : ¬ (0 ≤ f ∧ f ≤ hi)) : okF hi n f = decide (f = 255) := by
  by_cases h3 : f = 255
  · simp [okF, h3, h]
  · simp [okF, h3]; omega
theorem ZlK (a b c n f : Int) (ds : List Int) (h : ds.length ≤ 1000000) : ZaI Try.prog 110 [.agg (.gen [.int .i64 a, .int .i64 b]), .agg (.gen [.int .i64 c, .int .i64 n, .int .i64 f, .list (.ints .i64 ds)])] (.int .i64 (Zeo a b c n f ds)) none :=
  start (ZrV a b c n f ds) fun C hC => by
    by_cases h1 : 0 ≤ n ∧ n ≤ 63
    · by_cases h2 : 0 ≤ f ∧ f ≤ wr (a - 1)
      · have h2' : decide (0 ≤ f ∧ f ≤ Go.IntKind.wrap .i64 (std.sub a 1)) = true := decide_eq_true h2
        exact fin hC Zhm (ZDU std a b c n f ds) (by simp only [h2']; simp [h1, h, AV.bx, Zae]) (by rw [Zeo, ZFC _ _ _ h1 h2]; rfl) rfl
      · have h2' : decide (0 ≤ f ∧ f ≤ Go.IntKind.wrap .i64 (std.sub a 1)) = false := decide_eq_false h2
        exact fin hC Zhm (ZBz std a b c n f ds) (by simp only [h2']; simp [h1, h, AV.bx, Zae]) (by rw [Zeo, ZEC _ _ _ h1 h2]; rfl) rfl
    · have h1' : decide (0 ≤ n ∧ n ≤ 63) = false := decide_eq_false h1
      exact fin hC Zhm (ZFy std a b c n f ds) (by simp only [h1']; simp [h, AV.bx, Zae]) (by rw [Zeo, ZCF _ _ _ h1]; rfl) rfl
theorem ZoB (x y z u : Int) : Zbb [x, y, z, u] = if x = 0 then (if y = 0 then (if z = 0 then u else z) else y) else x := by
  simp only [Zbb]
  by_cases hu : u = 0 <;> simp [hu]
theorem Znp (a b c n f : Int) (ds : List Int) (h : (-1000000 ≤ a ∧ a ≤ 1000000) ∧ (-1000000 ≤ b ∧ b ≤ 1000000)) : ZaI Try.prog 64 [.agg (.gen [.int .i64 a, .int .i64 b]), .agg (.gen [.int .i64 c, .int .i64 n, .int .i64 f, .list (.ints .i64 ds)])] (.int .i64 (Zd6 a b c n f ds)) none :=
  start (Zzd a b c n f ds) fun C hC => by
    obtain ⟨ha, hb⟩ := h
    rw [Zd6, ZoB]
    by_cases h0 : ZbS b c = 0
    · rw [if_pos h0]
      by_cases h1 : 0 ≤ n ∧ n ≤ 63
      · by_cases h2 : 0 ≤ f ∧ f ≤ a - 1
        · rw [ZFC _ _ _ h1 h2, Zfu, if_pos rfl]
          by_cases h3 : (ds.length : Int) = a
          · exact fin hC Zhm (ZG9 std a b c n f ds) (by simp [h0, h1, h2.1, h2.2, h3]; omega) (by simp [h3]) rfl
          · exact fin hC Zhm (ZHx std a b c n f ds) (by simp [h0, h1, h2.1, h2.2, h3]; omega) (by simp [h3]) rfl
        · have h2' : decide (0 ≤ f ∧ f ≤ std.sub a 1) = false := decide_eq_false h2
          rw [ZEC _ _ _ h1 h2]
          by_cases h4 : f = 255
          · rw [decide_eq_true h4, Zfu, if_pos rfl]
            by_cases h3 : (ds.length : Int) = a
            · exact fin hC Zhm (ZJK std a b c n f ds) (by simp only [h2']; simp [h0, h1, h3, h4]; omega) (by simp [h3]) rfl
            · exact fin hC Zhm (ZJg std a b c n f ds) (by simp only [h2']; simp [h0, h1, h3, h4]; omega) (by simp [h3]) rfl
          · rw [decide_eq_false h4]
            exact fin hC Zhm (ZHo std a b c n f ds) (by simp only [h2']; simp [h0, h1, h4]; omega) (by simp) rfl
      · have h1' : decide (0 ≤ n ∧ n ≤ 63) = false := decide_eq_false h1
        rw [ZCF _ _ _ h1]
        exact fin hC Zhm (ZIo std a b c n f ds) (by simp only [h1']; simp [h0]; omega) (by simp) rfl
    · rw [if_neg h0]
      exact fin hC Zhm (ZJH std a b c n f ds) (by simp [h0]; omega) rfl rfl
def k110 : Ctr := ⟨110, 0, fun _ a => match a with | [.agg (.gen [.int .i64 a, .int .i64 b]), .agg (.gen [.int .i64 c, .int .i64 n, .int .i64 f, .list (.ints .i64 ds)])] => some (decide (ds.length ≤ 1000000), .int .i64 (Zeo a b c n f ds), none) | _ => none⟩
theorem Zww : k110.OK Try.prog := fun pa args r fr h => by
  simp only [k110] at h
  split at h
  · simp only [Option.some.injEq, Prod.mk.injEq, decide_eq_true_eq] at h
    obtain ⟨h0, rfl, rfl⟩ := h
    exact ZlK _ _ _ _ _ _ h0
  · cases h
def k64 : Ctr := ⟨64, 0, fun _ a => match a with | [.agg (.gen [.int .i64 a, .int .i64 b]), .agg (.gen [.int .i64 c, .int .i64 n, .int .i64 f, .list (.ints .i64 ds)])] => some (decide ((-1000000 ≤ a ∧ a ≤ 1000000) ∧ (-1000000 ≤ b ∧ b ≤ 1000000)), .int .i64 (Zd6 a b c n f ds), none) | _ => none⟩
theorem ZFd : k64.OK Try.prog := fun pa args r fr h => by
  simp only [k64] at h
  split at h
  · simp only [Option.some.injEq, Prod.mk.injEq, decide_eq_true_eq] at h
    obtain ⟨h0, rfl, rfl⟩ := h
    exact Znp _ _ _ _ _ _ h0
  · cases h
def B3 : List Ctr := [k110, k64] ++ B2
theorem ZHU : Zas Try.prog B3 := ⟨Zww, ⟨ZFd, Zhm⟩⟩
end Go.Proofs.Ytjhdnpmojhkbjaa
/- Contracts as a list. No condition. -/
namespace Go.Proofs.Ytjhdnpmojhkbjaa
theorem WkL.rel {w : World} {ok : Nat → Prop} {h : Zaa} {L : Lay} {xs ys : List AV} {v : Value} (hw : WkL xs ys) (hr : Rel w ok h L (.agg (.gen xs)) v) : Rel w ok h L (.agg (.gen ys)) v := by
  obtain ⟨e1, e2⟩ := hw.spec
  cases hr with
  | agg _ us hx vs hl h1 hrr =>
    simp only [Row.elems] at hx
    subst hx
    refine .agg _ ys rfl vs (by rw [← e1]; exact hl) h1 (fun j u v hu hv => ?_)
    obtain ⟨q, q1, q2⟩ := e2 j u hu
    exact q2.rel (hrr j q v q1 hv)
inductive Wk2 : AV → AV → Prop
  | one {x y : AV} (h : Wk1 x y) : Wk2 x y
  | agg {xs ys : List AV} (h : WkL xs ys) : Wk2 (.agg (.gen xs)) (.agg (.gen ys))
theorem Wk2.rel {w : World} {ok : Nat → Prop} {h : Zaa} {L : Lay} {x y : AV} {v : Value} (hw : Wk2 x y) (hr : Rel w ok h L x v) : Rel w ok h L y v := by
  cases hw with
  | one h => exact h.rel hr
  | agg h => exact h.rel hr
def Wk2L : List AV → List AV → Prop
  | [], [] => True
  | x :: xs, y :: ys => Wk2 x y ∧ Wk2L xs ys
  | _, _ => False
theorem Wk2L.spec : ∀ {xs ys : List AV}, Wk2L xs ys → xs.length = ys.length ∧ ∀ (j : Nat) (y : AV), ys[j]? = some y → ∃ x, xs[j]? = some x ∧ Wk2 x y
  | [], [], _ => ⟨rfl, fun j y h => by simp at h⟩
  | x :: xs, y :: ys, h => by
    obtain ⟨h1, h2⟩ := h
    obtain ⟨e1, e2⟩ := Wk2L.spec h2
    refine ⟨by simp [e1], fun j z hz => ?_⟩
    cases j with
    | zero => simp at hz; subst hz; exact ⟨x, rfl, h1⟩
    | succ j => obtain ⟨q, q1, q2⟩ := e2 j z (by simpa using hz); exact ⟨q, by simpa using q1, q2⟩
theorem ZkE {f : FuncId} {args : List AV} {x y : AV} {fr : Option Fresh} (h : ZaI Try.prog f args x fr) (hw : ∀ {w : World} {ok : Nat → Prop} {hh : Zaa} {L : Lay} {v : Value}, Rel w ok hh L x v → Rel w ok hh L y v) : ZaI Try.prog f args y fr := by
  intro w okA L vs hargs hok
  refine (h w okA L vs hargs hok).mono ?_
  rintro e w' ⟨x, L', rfl, hb, hp⟩
  refine ⟨x, L', rfl, hb, ?_⟩
  unfold ZkT at hp ⊢
  split
  · rename_i hn; rw [hn] at hp; exact hw hp
  · rename_i hn; rw [hn] at hp; exact ⟨hp.1, hw hp.2⟩
theorem wk2 {f : FuncId} {args : List AV} {x y : AV} {fr : Option Fresh} (h : ZaI Try.prog f args x fr) (hw : Wk2 x y) : ZaI Try.prog f args y fr := ZkE h hw.rel
theorem ZqB {f : FuncId} {args xs ys : List AV} {fr : Option Fresh} (h : ZaI Try.prog f args (.tup xs) fr) (hw : Wk2L xs ys) : ZaI Try.prog f args (.tup ys) fr :=
  ZkE h fun hr => by
    obtain ⟨e1, e2⟩ := hw.spec
    cases hr with
    | tup _ vs hl hrr =>
      refine .tup _ vs (by rw [← e1]; exact hl) (fun j u v hu hv => ?_)
      obtain ⟨q, q1, q2⟩ := e2 j u hu
      exact q2.rel (hrr j q v q1 hv)
theorem Zki {f : FuncId} {xs ys : List AV} {x : AV} {fr : Option Fresh} (h : ZaI Try.prog f ys x fr) (hw : Wk2L xs ys) : ZaI Try.prog f xs x fr := by
  intro w okA L vs hargs hok
  obtain ⟨e1, e2⟩ := hw.spec
  refine h w okA L vs ⟨by rw [← e1]; exact hargs.1, fun j u v hu hv => ?_⟩ hok
  obtain ⟨q, q1, q2⟩ := e2 j u hu
  exact q2.rel (hargs.2 j q v q1 hv)
theorem ZmB (x : AV) : Wk2 x x := .one (.same _)
theorem Zku {a b c n f : Int} {ds : List Int} (h : Zd6 a b c n f ds = 0) : (0 ≤ c ∧ c ≤ b - 1) ∧ (0 ≤ n ∧ n ≤ 63) ∧ (0 ≤ f ∧ f ≤ a - 1 ∨ f = 255) ∧ (ds.length : Int) = a ∧ ZaQ ds = 0 := by
  rw [Zd6, ZoB] at h
  by_cases h1 : 0 ≤ c ∧ c ≤ b - 1
  · rw [ZbS, if_pos h1, if_pos rfl] at h
    by_cases h2 : okF (a - 1) n f = true
    · rw [h2, Zfu, if_pos rfl] at h
      by_cases h3 : (ds.length : Int) = a
      · rw [decide_eq_true h3, Zfu, if_pos rfl] at h
        simp only [okF, decide_eq_true_eq] at h2
        exact ⟨h1, h2.1, h2.2, h3, h⟩
      · rw [decide_eq_false h3, Zkn, if_neg (by decide)] at h; cases h
    · simp only [Bool.not_eq_true] at h2
      rw [h2, Zkn, if_neg (by decide)] at h; cases h
  · rw [ZbS, if_neg h1, if_neg (by decide)] at h; cases h
theorem Znd {xs : List Int} (h : ZaQ xs = 0) : ∀ x ∈ xs, 0 ≤ x ∧ x ≤ 255 := by
  unfold ZaQ at h
  split at h
  · rename_i hb
    intro x hx
    have := List.all_eq_true.1 hb x hx
    simpa [Zoz] using this
  · cases h
def B4 : List Ctr := B3
theorem ZIg : Zas Try.prog B4 := ZHU
end Go.Proofs.Ytjhdnpmojhkbjaa
/- Contracts as a list. No condition. -/
namespace Go.Proofs.Ytjhdnpmojhkbjaa
theorem awake_ok : ZaI Try.prog 14 [] (.bool true) none := Zxq
def k14 : Ctr := ⟨14, 0, fun _ a => match a with | [] => some (true, .bool true, none) | _ => none⟩
theorem ZBY : k14.OK Try.prog := fun pa args r fr h => by
  simp only [k14] at h
  split at h
  · cases h
    exact awake_ok
  · cases h
def B5 : List Ctr := [k14] ++ B4
theorem ZrI : Zas Try.prog B5 := ⟨ZBY, ZIg⟩
end Go.Proofs.Ytjhdnpmojhkbjaa
/- Paths of functions, printed by the explorer (Gx). No condition. -/
namespace Go.Proofs.Ytjhdnpmojhkbjaa
set_option maxRecDepth 100000
set_option linter.unusedVariables false
def Zs0 (a : Int) (b : Int) : AFrame := { fn := 120, N := 20, env := [(0, AV.int .i64 a), (1, AV.int .i64 b)], todo := [.code a120.code], defs := [], rnd := none, ret := false, res := [ARes.tmp 4] }
def Zza (a : Int) (b : Int) : List AFrame := [(Zs0 a b)]
theorem ZrG (a : Int) (b : Int) : Zal tab 120 [AV.int .i64 a, AV.int .i64 b] = some (Zs0 a b) := rfl
theorem ZCp (A : Ar) (a b : Int) : ZaD A tab B5 69 [false, false, true] 120 (Zza a b) [] =
  some (tr [2, 3, 1, 18] [A.lt a b, !A.not (A.eq b b), !A.not (A.eq a a)],
   AV.int .i64 (-1), none) := by kernel_rfl
theorem ZFu (A : Ar) (a b : Int) : ZaD A tab B5 78 [false, false, false, true] 120 (Zza a b) [] =
  some (tr [2, 3, 3, 1, 18] [A.lt b a, !A.lt a b, !A.not (A.eq b b), !A.not (A.eq a a)],
   AV.int .i64 1, none) := by kernel_rfl
theorem ZB6 (A : Ar) (a b : Int) : ZaD A tab B5 79 [false, false, false, false] 120 (Zza a b) [] =
  some (tr [2, 3, 3, 1, 18] [!A.lt b a, !A.lt a b, !A.not (A.eq b b), !A.not (A.eq a a)],
   AV.int .i64 0, none) := by kernel_rfl
end Go.Proofs.Ytjhdnpmojhkbjaa
/- Contracts as a list. No condition. -/
namespace Go.Proofs.Ytjhdnpmojhkbjaa
def ZhG (a b : Int) : Int := if a < b then -1 else if b < a then 1 else 0
theorem ZpR (a b : Int) : ZaI Try.prog 120 [.int .i64 a, .int .i64 b] (.int .i64 (ZhG a b)) none :=
  start (ZrG a b) fun C hC => by
    by_cases h1 : a < b
    · exact fin hC ZrI (ZCp std a b) (by simp [h1]) (by rw [ZhG, if_pos h1]) rfl
    · by_cases h2 : b < a
      · exact fin hC ZrI (ZFu std a b) (by simp [h1, h2]) (by rw [ZhG, if_neg h1, if_pos h2]) rfl
      · exact fin hC ZrI (ZB6 std a b) (by simp [h1, h2]) (by rw [ZhG, if_neg h1, if_neg h2]) rfl
def k120 : Ctr := ⟨120, 0, fun _ a => match a with | [.int .i64 a, .int .i64 b] => some (true, .int .i64 (ZhG a b), none) | _ => none⟩
theorem Zyy : k120.OK Try.prog := fun pa args r fr h => by
  simp only [k120] at h
  split at h
  · cases h
    exact ZpR _ _
  · cases h
def BO0 : List Ctr := [k120] ++ B5
theorem Zpt : Zas Try.prog BO0 := ⟨Zyy, ZrI⟩
end Go.Proofs.Ytjhdnpmojhkbjaa
