/- Calls at given values. Printed by facts.py. -/
import Derived.Test.YtjhdnpmojhkbjaaA1
import Derived.KernelRfl
namespace Go.Proofs.Ytjhdnpmojhkbjaa
set_option maxRecDepth 1000000
def iN(n:Int):AV:=.int .i64 n
def Fact.ok(q:Fact):Prop:=ZaH Try.prog q.f q.args q.r q.fr
theorem fct{q:Fact}(l:List Fact)(h:Zks Try.prog l)(hk:ZJO ZoS tab (ZCc l) 100000 q.f q.args=some (true,q.r,q.fr)):q.ok:=ZBv follows ZjO h hk
def q0:Fact:=⟨86,[(.bool true),(iN 10)],(iN 0),none⟩
theorem Zo0:q0.ok:=fct [] trivial (by kernel_rfl)
def q1:Fact:=⟨86,[(.bool true),(iN 8)],(iN 0),none⟩
theorem Zpm:q1.ok:=fct [] trivial (by kernel_rfl)
def q2:Fact:=⟨87,[(iN 1),(iN 0),(iN 255)],(.bool true),none⟩
theorem ZLX:q2.ok:=fct [] trivial (by kernel_rfl)
def q3:Fact:=⟨93,[(iN 1)],(.bool true),none⟩
theorem ZDM:q3.ok:=fct [q2] ⟨ZLX,trivial⟩ (by kernel_rfl)
def q4:Fact:=⟨86,[(.bool true),(iN 2)],(iN 0),none⟩
theorem Zf0:q4.ok:=fct [] trivial (by kernel_rfl)
def q5:Fact:=⟨128,[(iN 1)],(iN 0),none⟩
theorem Zux:q5.ok:=fct [q3,q4] ⟨ZDM,Zf0,trivial⟩ (by kernel_rfl)
def q6:Fact:=⟨87,[(iN 5),(iN 0),(iN 255)],(.bool true),none⟩
theorem ZLB:q6.ok:=fct [] trivial (by kernel_rfl)
def q7:Fact:=⟨93,[(iN 5)],(.bool true),none⟩
theorem ZNu:q7.ok:=fct [q6] ⟨ZLB,trivial⟩ (by kernel_rfl)
def q8:Fact:=⟨128,[(iN 5)],(iN 0),none⟩
theorem ZMQ:q8.ok:=fct [q7,q4] ⟨ZNu,Zf0,trivial⟩ (by kernel_rfl)
def q9:Fact:=⟨87,[(iN 0),(iN 0),(iN 255)],(.bool true),none⟩
theorem ZLD:q9.ok:=fct [] trivial (by kernel_rfl)
def q10:Fact:=⟨93,[(iN 0)],(.bool true),none⟩
theorem Zv1:q10.ok:=fct [q9] ⟨ZLD,trivial⟩ (by kernel_rfl)
def q11:Fact:=⟨128,[(iN 0)],(iN 0),none⟩
theorem ZrL:q11.ok:=fct [q10,q4] ⟨Zv1,Zf0,trivial⟩ (by kernel_rfl)
def q12:Fact:=⟨87,[(iN 7),(iN 0),(iN 255)],(.bool true),none⟩
theorem ZDn:q12.ok:=fct [] trivial (by kernel_rfl)
def q13:Fact:=⟨93,[(iN 7)],(.bool true),none⟩
theorem ZDS:q13.ok:=fct [q12] ⟨ZDn,trivial⟩ (by kernel_rfl)
def q14:Fact:=⟨128,[(iN 7)],(iN 0),none⟩
theorem ZHe:q14.ok:=fct [q13,q4] ⟨ZDS,Zf0,trivial⟩ (by kernel_rfl)
def q15:Fact:=⟨87,[(iN 255),(iN 0),(iN 255)],(.bool true),none⟩
theorem ZE6:q15.ok:=fct [] trivial (by kernel_rfl)
def q16:Fact:=⟨93,[(iN 255)],(.bool true),none⟩
theorem ZDf:q16.ok:=fct [q15] ⟨ZE6,trivial⟩ (by kernel_rfl)
def q17:Fact:=⟨128,[(iN 255)],(iN 0),none⟩
theorem Zwc:q17.ok:=fct [q16,q4] ⟨ZDf,Zf0,trivial⟩ (by kernel_rfl)
def q18:Fact:=⟨127,[(.list (.ints .i64 [1,5,0,7,0,0,255])),(.fn 128 [])],(iN 0),none⟩
theorem ZDT:q18.ok:=fct [q5,q8,q11,q14,q17] ⟨Zux,ZMQ,ZrL,ZHe,Zwc,trivial⟩ (by kernel_rfl)
def q19:Fact:=⟨94,[(.list (.ints .i64 [1,5,0,7,0,0,255]))],(iN 0),none⟩
theorem ZEn:q19.ok:=fct [q18] ⟨ZDT,trivial⟩ (by kernel_rfl)
def q20:Fact:=⟨84,[(.list (.ints .i64 [0,0,0]))],(iN 0),none⟩
theorem ZlE:q20.ok:=fct [] trivial (by kernel_rfl)
def q21:Fact:=⟨109,[(.list (.ints .i64 [1,5,0,7,0,0,255]))],(.agg (.ints .i64 [18,76])),none⟩
theorem ZCp:q21.ok:=fct [] trivial (by kernel_rfl)
def q22:Fact:=⟨60,[(.list (.ints .i64 [1,5,0,7,0,0,255]))],(.tup [(iN 4684),(iN 0)]),none⟩
theorem ZEP:q22.ok:=fct [q0,q1,q19,q20,q21] ⟨Zo0,Zpm,ZEn,ZlE,ZCp,trivial⟩ (by kernel_rfl)
def q23:Fact:=⟨75,[],(.agg (.gen [(iN 4),(iN 2)])),none⟩
theorem ZH9:q23.ok:=fct [] trivial (by kernel_rfl)
def q24:Fact:=⟨76,[],(.list (.gen [(.agg (.gen [(iN 9),(iN 0),(.list (.ints .i64 [1,2]))])),(.agg (.gen [(iN 9),(iN 1),(.list (.ints .i64 [3]))]))])),none⟩
theorem ZH1:q24.ok:=fct [] trivial (by kernel_rfl)
def q25:Fact:=⟨87,[(iN 4),(iN 4),(iN 24)],(.bool true),none⟩
theorem ZCr:q25.ok:=fct [] trivial (by kernel_rfl)
def q26:Fact:=⟨87,[(iN 2),(iN 1),(iN 4)],(.bool true),none⟩
theorem ZGW:q26.ok:=fct [] trivial (by kernel_rfl)
def q27:Fact:=⟨63,[(.agg (.gen [(iN 4),(iN 2)]))],(iN 0),none⟩
theorem ZJq:q27.ok:=fct [q25,q26,q4] ⟨ZCr,ZGW,Zf0,trivial⟩ (by kernel_rfl)
def q28:Fact:=⟨95,[(.agg (.gen [(iN 4),(iN 2)]))],(.tup [(.agg (.gen [(iN 4),(iN 2)])),(iN 0)]),none⟩
theorem ZH3:q28.ok:=fct [q27] ⟨ZJq,trivial⟩ (by kernel_rfl)
def q29:Fact:=⟨87,[(iN 0),(iN 0),(iN 1)],(.bool true),none⟩
theorem ZHB:q29.ok:=fct [] trivial (by kernel_rfl)
def q30:Fact:=⟨86,[(.bool true),(iN 6)],(iN 0),none⟩
theorem ZIl:q30.ok:=fct [] trivial (by kernel_rfl)
def q31:Fact:=⟨131,[(.agg (.gen [(iN 4),(iN 2)])),(iN 0)],(iN 0),none⟩
theorem ZnV:q31.ok:=fct [q29,q30] ⟨ZHB,ZIl,trivial⟩ (by kernel_rfl)
def q32:Fact:=⟨84,[(.list (.ints .i64 [0,0]))],(iN 0),none⟩
theorem ZlK:q32.ok:=fct [] trivial (by kernel_rfl)
def q33:Fact:=⟨99,[(.agg (.gen [(iN 4),(iN 2)])),(iN 0)],(.tup [(.agg (.gen [(iN 4),(iN 2)])),(iN 0)]),none⟩
theorem ZwG:q33.ok:=fct [q28,q31,q32] ⟨ZH3,ZnV,ZlK,trivial⟩ (by kernel_rfl)
def q34:Fact:=⟨87,[(iN 0),(iN 0),(iN 63)],(.bool true),none⟩
theorem ZCO:q34.ok:=fct [] trivial (by kernel_rfl)
def q35:Fact:=⟨100,[(iN 0)],(.bool true),none⟩
theorem Zu9:q35.ok:=fct [q34] ⟨ZCO,trivial⟩ (by kernel_rfl)
def q36:Fact:=⟨87,[(iN 9),(iN 0),(iN 255)],(.bool true),none⟩
theorem ZFB:q36.ok:=fct [] trivial (by kernel_rfl)
def q37:Fact:=⟨93,[(iN 9)],(.bool true),none⟩
theorem ZvL:q37.ok:=fct [q36] ⟨ZFB,trivial⟩ (by kernel_rfl)
def q38:Fact:=⟨128,[(iN 2)],(iN 0),none⟩
theorem ZrN:q38.ok:=fct [] trivial (by kernel_rfl)
def q39:Fact:=⟨127,[(.list (.ints .i64 [1,2])),(.fn 128 [])],(iN 0),none⟩
theorem ZCz:q39.ok:=fct [q5,q38] ⟨Zux,ZrN,trivial⟩ (by kernel_rfl)
def q40:Fact:=⟨94,[(.list (.ints .i64 [1,2]))],(iN 0),none⟩
theorem ZFd:q40.ok:=fct [q39] ⟨ZCz,trivial⟩ (by kernel_rfl)
def q41:Fact:=⟨30,[(.agg (.gen [(iN 9),(iN 0),(.list (.ints .i64 [1,2]))]))],(iN 0),none⟩
theorem ZJo:q41.ok:=fct [q37,q10,q4,q1,q40,q20] ⟨ZvL,Zv1,Zf0,Zpm,ZFd,ZlE,trivial⟩ (by kernel_rfl)
def q42:Fact:=⟨128,[(iN 3)],(iN 0),none⟩
theorem ZvB:q42.ok:=fct [] trivial (by kernel_rfl)
def q43:Fact:=⟨127,[(.list (.ints .i64 [3])),(.fn 128 [])],(iN 0),none⟩
theorem ZGe:q43.ok:=fct [q42] ⟨ZvB,trivial⟩ (by kernel_rfl)
def q44:Fact:=⟨94,[(.list (.ints .i64 [3]))],(iN 0),none⟩
theorem ZEf:q44.ok:=fct [q43] ⟨ZGe,trivial⟩ (by kernel_rfl)
def q45:Fact:=⟨30,[(.agg (.gen [(iN 9),(iN 1),(.list (.ints .i64 [3]))]))],(iN 0),none⟩
theorem ZHC:q45.ok:=fct [q37,q3,q4,q1,q44,q20] ⟨ZvL,ZDM,Zf0,Zpm,ZEf,ZlE,trivial⟩ (by kernel_rfl)
def q46:Fact:=⟨129,[(.list (.gen [(.agg (.gen [(iN 9),(iN 0),(.list (.ints .i64 [1,2]))])),(.agg (.gen [(iN 9),(iN 1),(.list (.ints .i64 [3]))]))])),(.fn 30 [])],(iN 0),none⟩
theorem ZCJ:q46.ok:=fct [q41,q45] ⟨ZJo,ZHC,trivial⟩ (by kernel_rfl)
def q47:Fact:=⟨96,[(.list (.gen [(.agg (.gen [(iN 9),(iN 0),(.list (.ints .i64 [1,2]))])),(.agg (.gen [(iN 9),(iN 1),(.list (.ints .i64 [3]))]))]))],(iN 0),none⟩
theorem ZF1:q47.ok:=fct [q1,q46,q32] ⟨Zpm,ZCJ,ZlK,trivial⟩ (by kernel_rfl)
def q48:Fact:=⟨130,[(.list (.gen [(.agg (.gen [(iN 9),(iN 0),(.list (.ints .i64 [1,2]))])),(.agg (.gen [(iN 9),(iN 1),(.list (.ints .i64 [3]))]))]))],(.row 0 0),(some ⟨57,3,(.gen [(.agg (.gen [(iN 9),(iN 0),(.list (.ints .i64 [1,2]))])),(.agg (.gen [(iN 9),(iN 1),(.list (.ints .i64 [3]))]))])⟩)⟩
theorem ZCB:q48.ok:=fct [] trivial (by kernel_rfl)
def q49:Fact:=⟨98,[(.agg (.gen [(iN 4),(iN 2)])),(.list (.gen [(.agg (.gen [(iN 9),(iN 0),(.list (.ints .i64 [1,2]))])),(.agg (.gen [(iN 9),(iN 1),(.list (.ints .i64 [3]))]))]))],(.row 0 0),(some ⟨57,3,(.big (.agg [(.int .i64),(.int .i64),(.ints .i64)]) [(.agg (.gen [(iN 9),(iN 0),(.list (.ints .i64 [1,2]))])),(.agg (.gen [(iN 9),(iN 1),(.list (.ints .i64 [3]))])),(.agg (.gen [(iN 255),(iN 0),(.list (.ints .i64 []))]))])⟩)⟩
theorem ZGb:q49.ok:=fct [q48] ⟨ZCB,trivial⟩ (by kernel_rfl)
def q50:Fact:=⟨97,[(.list (.big (.agg [(.int .i64),(.int .i64),(.ints .i64)]) [(.agg (.gen [(iN 9),(iN 0),(.list (.ints .i64 [1,2]))])),(.agg (.gen [(iN 9),(iN 1),(.list (.ints .i64 [3]))])),(.agg (.gen [(iN 255),(iN 0),(.list (.ints .i64 []))]))]))],(.tup [(.list (.ints .i64 [9,0,2,1,2,9,1,1,3,255,0,0])),(.list (.ints .i64 [0,5,9]))]),none⟩
theorem ZGh:q50.ok:=fct [] trivial (by kernel_rfl)
def q51:Fact:=⟨102,[(.list (.ints .i64 [9,0,2,1]))],(.row 0 0),(some ⟨3,1,(.ints .i64 [9,0,2,1])⟩)⟩
theorem ZCl:q51.ok:=fct [] trivial (by kernel_rfl)
def q52:Fact:=⟨138,[(iN 5)],(.bool false),none⟩
theorem Zrn:q52.ok:=fct [] trivial (by kernel_rfl)
def q53:Fact:=⟨133,[(iN 5),(iN 0)],(.bool false),none⟩
theorem ZF8:q53.ok:=fct [q52] ⟨Zrn,trivial⟩ (by kernel_rfl)
def q54:Fact:=⟨138,[(iN 0)],(.bool false),none⟩
theorem Zvn:q54.ok:=fct [] trivial (by kernel_rfl)
def q55:Fact:=⟨133,[(iN 0),(iN 0)],(.bool false),none⟩
theorem ZDK:q55.ok:=fct [q54] ⟨Zvn,trivial⟩ (by kernel_rfl)
def q56:Fact:=⟨103,[(.list (.ints .i64 [0,5,9])),(iN 0)],(.tup [(iN 0),(.bool true)]),none⟩
theorem ZEZ:q56.ok:=fct [q53,q55] ⟨ZF8,ZDK,trivial⟩ (by kernel_rfl)
def q57:Fact:=⟨102,[(.list (.ints .i64 [2,9,1,1]))],(.row 0 0),(some ⟨3,1,(.ints .i64 [2,9,1,1])⟩)⟩
theorem ZH2:q57.ok:=fct [] trivial (by kernel_rfl)
def q58:Fact:=⟨133,[(iN 5),(iN 4)],(.bool false),none⟩
theorem ZF0:q58.ok:=fct [q52] ⟨Zrn,trivial⟩ (by kernel_rfl)
def q59:Fact:=⟨133,[(iN 0),(iN 4)],(.bool true),none⟩
theorem ZDP:q59.ok:=fct [q54] ⟨Zvn,trivial⟩ (by kernel_rfl)
def q60:Fact:=⟨134,[(iN 5)],(.bool false),none⟩
theorem ZCH:q60.ok:=fct [] trivial (by kernel_rfl)
def q61:Fact:=⟨103,[(.list (.ints .i64 [0,5,9])),(iN 4)],(.tup [(iN 1),(.bool false)]),none⟩
theorem ZCV:q61.ok:=fct [q58,q59,q60] ⟨ZF0,ZDP,ZCH,trivial⟩ (by kernel_rfl)
def q62:Fact:=⟨102,[(.list (.ints .i64 [3,255,0,0]))],(.row 0 0),(some ⟨3,1,(.ints .i64 [3,255,0,0])⟩)⟩
theorem ZFD:q62.ok:=fct [] trivial (by kernel_rfl)
def q63:Fact:=⟨133,[(iN 5),(iN 8)],(.bool true),none⟩
theorem ZIv:q63.ok:=fct [q52] ⟨Zrn,trivial⟩ (by kernel_rfl)
def q64:Fact:=⟨138,[(iN 9)],(.bool false),none⟩
theorem ZIA:q64.ok:=fct [] trivial (by kernel_rfl)
def q65:Fact:=⟨133,[(iN 9),(iN 8)],(.bool false),none⟩
theorem ZHy:q65.ok:=fct [q64] ⟨ZIA,trivial⟩ (by kernel_rfl)
def q66:Fact:=⟨134,[(iN 9)],(.bool false),none⟩
theorem ZED:q66.ok:=fct [] trivial (by kernel_rfl)
def q67:Fact:=⟨103,[(.list (.ints .i64 [0,5,9])),(iN 8)],(.tup [(iN 2),(.bool false)]),none⟩
theorem ZJz:q67.ok:=fct [q63,q65,q66] ⟨ZIv,ZHy,ZED,trivial⟩ (by kernel_rfl)
def q68:Fact:=⟨35,[(.agg (.gen [(iN 4),(iN 2)])),(.agg (.gen [(iN 0),(iN 0)])),(.list (.gen [(.agg (.gen [(iN 9),(iN 0),(.list (.ints .i64 [1,2]))])),(.agg (.gen [(iN 9),(iN 1),(.list (.ints .i64 [3]))]))]))],(.tup [(.list (.gen [(.agg (.gen [(iN 0),(iN 0),(iN 0),(.list (.ints .i64 [9,0,2,1]))])),(.agg (.gen [(iN 0),(iN 1),(iN 1),(.list (.ints .i64 [2,9,1,1]))])),(.agg (.gen [(iN 0),(iN 2),(iN 1),(.list (.ints .i64 [3,255,0,0]))]))])),(iN 0)]),none⟩
theorem ZID:q68.ok:=fct [q33,q35,q4,q47,q20,q49,q50,q51,q56,q57,q61,q62,q67] ⟨ZwG,Zu9,Zf0,ZF1,ZlE,ZGb,ZGh,ZCl,ZEZ,ZH2,ZCV,ZFD,ZJz,trivial⟩ (by kernel_rfl)
def q69:Fact:=⟨55,[(.list (.ints .i64 [9,0,2,1]))],(.row 0 0),(some ⟨3,1,(.ints .i64 [9,0,2,1])⟩)⟩
theorem ZIc:q69.ok:=fct [] trivial (by kernel_rfl)
def q70:Fact:=⟨40,[(.agg (.gen [(iN 0),(iN 0),(iN 0),(.list (.ints .i64 [9,0,2,1]))]))],(.agg (.gen [(iN 0),(iN 0),(iN 0),(.list (.ints .i64 [9,0,2,1]))])),none⟩
theorem ZIr:q70.ok:=fct [q69] ⟨ZIc,trivial⟩ (by kernel_rfl)
def q71:Fact:=⟨55,[(.list (.ints .i64 [2,9,1,1]))],(.row 0 0),(some ⟨3,1,(.ints .i64 [2,9,1,1])⟩)⟩
theorem ZGO:q71.ok:=fct [] trivial (by kernel_rfl)
def q72:Fact:=⟨40,[(.agg (.gen [(iN 0),(iN 1),(iN 1),(.list (.ints .i64 [2,9,1,1]))]))],(.agg (.gen [(iN 0),(iN 1),(iN 1),(.list (.ints .i64 [2,9,1,1]))])),none⟩
theorem ZGg:q72.ok:=fct [q71] ⟨ZGO,trivial⟩ (by kernel_rfl)
def q73:Fact:=⟨55,[(.list (.ints .i64 [3,255,0,0]))],(.row 0 0),(some ⟨3,1,(.ints .i64 [3,255,0,0])⟩)⟩
theorem ZIS:q73.ok:=fct [] trivial (by kernel_rfl)
def q74:Fact:=⟨40,[(.agg (.gen [(iN 0),(iN 2),(iN 1),(.list (.ints .i64 [3,255,0,0]))]))],(.agg (.gen [(iN 0),(iN 2),(iN 1),(.list (.ints .i64 [3,255,0,0]))])),none⟩
theorem ZH8:q74.ok:=fct [q73] ⟨ZIS,trivial⟩ (by kernel_rfl)
def q75:Fact:=⟨17,[(.list (.gen [(.agg (.gen [(iN 0),(iN 0),(iN 0),(.list (.ints .i64 [9,0,2,1]))])),(.agg (.gen [(iN 0),(iN 1),(iN 1),(.list (.ints .i64 [2,9,1,1]))])),(.agg (.gen [(iN 0),(iN 2),(iN 1),(.list (.ints .i64 [3,255,0,0]))]))]))],(.row 0 0),(some ⟨74,4,(.big (.agg [(.int .i64),(.int .i64),(.int .i64),(.ints .i64)]) [(.agg (.gen [(iN 0),(iN 0),(iN 0),(.list (.ints .i64 [9,0,2,1]))])),(.agg (.gen [(iN 0),(iN 1),(iN 1),(.list (.ints .i64 [2,9,1,1]))])),(.agg (.gen [(iN 0),(iN 2),(iN 1),(.list (.ints .i64 [3,255,0,0]))]))])⟩)⟩
theorem ZHR:q75.ok:=fct [q70,q72,q74] ⟨ZIr,ZGg,ZH8,trivial⟩ (by kernel_rfl)
def q76:Fact:=⟨87,[(iN 0),(iN 0),(iN 3)],(.bool true),none⟩
theorem ZIN:q76.ok:=fct [] trivial (by kernel_rfl)
def q77:Fact:=⟨128,[(iN 9)],(iN 0),none⟩
theorem Zwh:q77.ok:=fct [] trivial (by kernel_rfl)
def q78:Fact:=⟨127,[(.list (.ints .i64 [9,0,2,1])),(.fn 128 [])],(iN 0),none⟩
theorem ZIs:q78.ok:=fct [q77,q11,q38,q5] ⟨Zwh,ZrL,ZrN,Zux,trivial⟩ (by kernel_rfl)
def q79:Fact:=⟨94,[(.list (.ints .i64 [9,0,2,1]))],(iN 0),none⟩
theorem ZFZ:q79.ok:=fct [q78] ⟨ZIs,trivial⟩ (by kernel_rfl)
def q80:Fact:=⟨84,[(.list (.ints .i64 [0,0,0,0]))],(iN 0),none⟩
theorem Zqh:q80.ok:=fct [] trivial (by kernel_rfl)
def q81:Fact:=⟨110,[(.agg (.gen [(iN 4),(iN 2)])),(.agg (.gen [(iN 0),(iN 0),(iN 0),(.list (.ints .i64 [9,0,2,1]))]))],(iN 0),none⟩
theorem ZCm:q81.ok:=fct [q31,q35,q76,q4,q0,q79,q80] ⟨ZnV,Zu9,ZIN,Zf0,Zo0,ZFZ,Zqh,trivial⟩ (by kernel_rfl)
def q82:Fact:=⟨87,[(iN 1),(iN 0),(iN 63)],(.bool true),none⟩
theorem ZI4:q82.ok:=fct [] trivial (by kernel_rfl)
def q83:Fact:=⟨100,[(iN 1)],(.bool true),none⟩
theorem ZFe:q83.ok:=fct [q82] ⟨ZI4,trivial⟩ (by kernel_rfl)
def q84:Fact:=⟨87,[(iN 1),(iN 0),(iN 3)],(.bool true),none⟩
theorem ZvO:q84.ok:=fct [] trivial (by kernel_rfl)
def q85:Fact:=⟨127,[(.list (.ints .i64 [2,9,1,1])),(.fn 128 [])],(iN 0),none⟩
theorem ZDs:q85.ok:=fct [q38,q77,q5] ⟨ZrN,Zwh,Zux,trivial⟩ (by kernel_rfl)
def q86:Fact:=⟨94,[(.list (.ints .i64 [2,9,1,1]))],(iN 0),none⟩
theorem ZHi:q86.ok:=fct [q85] ⟨ZDs,trivial⟩ (by kernel_rfl)
def q87:Fact:=⟨110,[(.agg (.gen [(iN 4),(iN 2)])),(.agg (.gen [(iN 0),(iN 1),(iN 1),(.list (.ints .i64 [2,9,1,1]))]))],(iN 0),none⟩
theorem ZFW:q87.ok:=fct [q31,q83,q84,q4,q0,q86,q80] ⟨ZnV,ZFe,ZvO,Zf0,Zo0,ZHi,Zqh,trivial⟩ (by kernel_rfl)
def q88:Fact:=⟨87,[(iN 2),(iN 0),(iN 63)],(.bool true),none⟩
theorem ZFl:q88.ok:=fct [] trivial (by kernel_rfl)
def q89:Fact:=⟨100,[(iN 2)],(.bool true),none⟩
theorem ZCu:q89.ok:=fct [q88] ⟨ZFl,trivial⟩ (by kernel_rfl)
def q90:Fact:=⟨127,[(.list (.ints .i64 [3,255,0,0])),(.fn 128 [])],(iN 0),none⟩
theorem ZEs:q90.ok:=fct [q42,q17,q11] ⟨ZvB,Zwc,ZrL,trivial⟩ (by kernel_rfl)
def q91:Fact:=⟨94,[(.list (.ints .i64 [3,255,0,0]))],(iN 0),none⟩
theorem ZFP:q91.ok:=fct [q90] ⟨ZEs,trivial⟩ (by kernel_rfl)
def q92:Fact:=⟨110,[(.agg (.gen [(iN 4),(iN 2)])),(.agg (.gen [(iN 0),(iN 2),(iN 1),(.list (.ints .i64 [3,255,0,0]))]))],(iN 0),none⟩
theorem ZEE:q92.ok:=fct [q31,q89,q84,q4,q0,q91,q80] ⟨ZnV,ZCu,ZvO,Zf0,Zo0,ZFP,Zqh,trivial⟩ (by kernel_rfl)
def q93:Fact:=⟨117,[(.list (.big (.agg [(.int .i64),(.int .i64),(.int .i64),(.ints .i64)]) [(.agg (.gen [(iN 0),(iN 0),(iN 0),(.list (.ints .i64 [9,0,2,1]))])),(.agg (.gen [(iN 0),(iN 1),(iN 1),(.list (.ints .i64 [2,9,1,1]))])),(.agg (.gen [(iN 0),(iN 2),(iN 1),(.list (.ints .i64 [3,255,0,0]))]))])),(.val (.func (.func 110) ⟨[(.agg ⟨[(.int .i64 4),(.int .i64 2)]⟩)]⟩ ⟨[]⟩))],(iN 0),none⟩
theorem ZEv:q93.ok:=fct [q81,q87,q92] ⟨ZCm,ZFW,ZEE,trivial⟩ (by kernel_rfl)
def q94:Fact:=⟨78,[(.agg (.gen [(iN 4),(iN 2)])),(iN 0),(.list (.big (.agg [(.int .i64),(.int .i64),(.int .i64),(.ints .i64)]) [(.agg (.gen [(iN 0),(iN 0),(iN 0),(.list (.ints .i64 [9,0,2,1]))])),(.agg (.gen [(iN 0),(iN 1),(iN 1),(.list (.ints .i64 [2,9,1,1]))])),(.agg (.gen [(iN 0),(iN 2),(iN 1),(.list (.ints .i64 [3,255,0,0]))]))]))],(.tup [(.agg (.gen [(iN 4),(iN 2)])),(iN 0)]),none⟩
theorem ZwN:q94.ok:=fct [q33,q1,q93,q20] ⟨ZwG,Zpm,ZEv,ZlE,trivial⟩ (by kernel_rfl)
def q95:Fact:=⟨120,[(iN 65),(iN 64)],(iN 1),none⟩
theorem ZDl:q95.ok:=fct [] trivial (by kernel_rfl)
def q96:Fact:=⟨119,[(.agg (.gen [(iN 0),(iN 1),(iN 1),(.list (.ints .i64 [2,9,1,1])),(iN 65)])),(.agg (.gen [(iN 0),(iN 0),(iN 0),(.list (.ints .i64 [9,0,2,1])),(iN 64)]))],(iN 1),none⟩
theorem ZJu:q96.ok:=fct [q95] ⟨ZDl,trivial⟩ (by kernel_rfl)
def q97:Fact:=⟨120,[(iN 66),(iN 65)],(iN 1),none⟩
theorem ZFt:q97.ok:=fct [] trivial (by kernel_rfl)
def q98:Fact:=⟨119,[(.agg (.gen [(iN 0),(iN 2),(iN 1),(.list (.ints .i64 [3,255,0,0])),(iN 66)])),(.agg (.gen [(iN 0),(iN 1),(iN 1),(.list (.ints .i64 [2,9,1,1])),(iN 65)]))],(iN 1),none⟩
theorem ZD1:q98.ok:=fct [q97] ⟨ZFt,trivial⟩ (by kernel_rfl)
def q99:Fact:=⟨139,[(.list (.big (.agg [(.int .i64),(.int .i64),(.int .i64),(.ints .i64),(.int .i64)]) [(.agg (.gen [(iN 0),(iN 0),(iN 0),(.list (.ints .i64 [9,0,2,1])),(iN 64)])),(.agg (.gen [(iN 0),(iN 1),(iN 1),(.list (.ints .i64 [2,9,1,1])),(iN 65)])),(.agg (.gen [(iN 0),(iN 2),(iN 1),(.list (.ints .i64 [3,255,0,0])),(iN 66)]))])),(iN 0),(iN 3),(.fn 119 [])],(.tup []),none⟩
theorem ZE1:q99.ok:=fct [q96,q98] ⟨ZJu,ZD1,trivial⟩ (by kernel_rfl)
def q100:Fact:=⟨137,[(.list (.big (.agg [(.int .i64),(.int .i64),(.int .i64),(.ints .i64),(.int .i64)]) [(.agg (.gen [(iN 0),(iN 0),(iN 0),(.list (.ints .i64 [9,0,2,1])),(iN 64)])),(.agg (.gen [(iN 0),(iN 1),(iN 1),(.list (.ints .i64 [2,9,1,1])),(iN 65)])),(.agg (.gen [(iN 0),(iN 2),(iN 1),(.list (.ints .i64 [3,255,0,0])),(iN 66)]))])),(iN 3),(.fn 119 [])],(.tup []),none⟩
theorem Zzn:q100.ok:=fct [q99] ⟨ZE1,trivial⟩ (by kernel_rfl)
def q101:Fact:=⟨118,[(.list (.big (.agg [(.int .i64),(.int .i64),(.int .i64),(.ints .i64),(.int .i64)]) [(.agg (.gen [(iN 0),(iN 0),(iN 0),(.list (.ints .i64 [9,0,2,1])),(iN 64)])),(.agg (.gen [(iN 0),(iN 1),(iN 1),(.list (.ints .i64 [2,9,1,1])),(iN 65)])),(.agg (.gen [(iN 0),(iN 2),(iN 1),(.list (.ints .i64 [3,255,0,0])),(iN 66)]))])),(.fn 119 [])],(.tup []),none⟩
theorem Zsg:q101.ok:=fct [q100] ⟨Zzn,trivial⟩ (by kernel_rfl)
def q102:Fact:=⟨122,[(.agg (.gen [(iN 0),(iN 1),(iN 1),(.list (.ints .i64 [2,9,1,1])),(iN 65)])),(.agg (.gen [(iN 0),(iN 0),(iN 0),(.list (.ints .i64 [9,0,2,1])),(iN 64)]))],(.bool false),none⟩
theorem Znw:q102.ok:=fct [] trivial (by kernel_rfl)
def q103:Fact:=⟨122,[(.agg (.gen [(iN 0),(iN 2),(iN 1),(.list (.ints .i64 [3,255,0,0])),(iN 66)])),(.agg (.gen [(iN 0),(iN 1),(iN 1),(.list (.ints .i64 [2,9,1,1])),(iN 65)]))],(.bool false),none⟩
theorem ZmT:q103.ok:=fct [] trivial (by kernel_rfl)
def q104:Fact:=⟨121,[(.list (.big (.agg [(.int .i64),(.int .i64),(.int .i64),(.ints .i64),(.int .i64)]) [(.agg (.gen [(iN 0),(iN 0),(iN 0),(.list (.ints .i64 [9,0,2,1])),(iN 64)])),(.agg (.gen [(iN 0),(iN 1),(iN 1),(.list (.ints .i64 [2,9,1,1])),(iN 65)])),(.agg (.gen [(iN 0),(iN 2),(iN 1),(.list (.ints .i64 [3,255,0,0])),(iN 66)]))])),(.fn 122 [])],(.list (.big (.agg [(.int .i64),(.int .i64),(.int .i64),(.ints .i64),(.int .i64)]) [(.agg (.gen [(iN 0),(iN 0),(iN 0),(.list (.ints .i64 [9,0,2,1])),(iN 64)])),(.agg (.gen [(iN 0),(iN 1),(iN 1),(.list (.ints .i64 [2,9,1,1])),(iN 65)])),(.agg (.gen [(iN 0),(iN 2),(iN 1),(.list (.ints .i64 [3,255,0,0])),(iN 66)]))])),none⟩
theorem ZsV:q104.ok:=fct [q102,q103] ⟨Znw,ZmT,trivial⟩ (by kernel_rfl)
def q105:Fact:=⟨79,[(iN 0),(.list (.big (.agg [(.int .i64),(.int .i64),(.int .i64),(.ints .i64)]) [(.agg (.gen [(iN 0),(iN 0),(iN 0),(.list (.ints .i64 [9,0,2,1]))])),(.agg (.gen [(iN 0),(iN 1),(iN 1),(.list (.ints .i64 [2,9,1,1]))])),(.agg (.gen [(iN 0),(iN 2),(iN 1),(.list (.ints .i64 [3,255,0,0]))]))]))],(.row 0 0),(some ⟨140,5,(.big (.agg [(.int .i64),(.int .i64),(.int .i64),(.ints .i64),(.int .i64)]) [(.agg (.gen [(iN 0),(iN 0),(iN 0),(.list (.ints .i64 [9,0,2,1])),(iN 64)])),(.agg (.gen [(iN 0),(iN 1),(iN 1),(.list (.ints .i64 [2,9,1,1])),(iN 65)])),(.agg (.gen [(iN 0),(iN 2),(iN 1),(.list (.ints .i64 [3,255,0,0])),(iN 66)]))])⟩)⟩
theorem Zrh:q105.ok:=fct [q101,q104,q102,q103] ⟨Zsg,ZsV,Znw,ZmT,trivial⟩ (by kernel_rfl)
def q106:Fact:=⟨113,[(.list (.gen [.nils,(.list (.ints .i64 [9,0,2,1]))]))],(.row 0 0),(some ⟨3,1,(.ints .i64 [9,0,2,1])⟩)⟩
theorem ZqN:q106.ok:=fct [] trivial (by kernel_rfl)
def q107:Fact:=⟨113,[(.list (.big (.ints .i64) [(.list (.ints .i64 [9,0,2,1])),(.list (.ints .i64 [2,9,1,1]))]))],(.row 0 0),(some ⟨3,1,(.ints .i64 [9,0,2,1,2,9,1,1])⟩)⟩
theorem Zzu:q107.ok:=fct [] trivial (by kernel_rfl)
def q108:Fact:=⟨123,[(.eptr (.agg (.gen [(.bool true),(.list (.ints .i64 [9,0,2,1])), .nils])) 0),(.agg (.gen [(iN 0),(iN 1),(iN 1),(.list (.ints .i64 [2,9,1,1]))]))],(iN 1),none⟩
theorem Zra:q108.ok:=fct [q107] ⟨Zzu,trivial⟩ (by kernel_rfl)
def q109:Fact:=⟨113,[(.list (.gen [(.list (.ints .i64 [9,0,2,1])),(.list (.ints .i64 [2,9,1,1]))]))],(.row 0 0),(some ⟨3,1,(.ints .i64 [9,0,2,1,2,9,1,1])⟩)⟩
theorem Zq3:q109.ok:=fct [] trivial (by kernel_rfl)
def q110:Fact:=⟨102,[(.list (.ints .i64 [1,2]))],(.row 0 0),(some ⟨3,1,(.ints .i64 [1,2])⟩)⟩
theorem Zse:q110.ok:=fct [] trivial (by kernel_rfl)
def q111:Fact:=⟨113,[(.list (.big (.ints .i64) [(.list (.ints .i64 [9,1,1])),(.list (.ints .i64 [3,255,0,0]))]))],(.row 0 0),(some ⟨3,1,(.ints .i64 [9,1,1,3,255,0,0])⟩)⟩
theorem ZxW:q111.ok:=fct [] trivial (by kernel_rfl)
def q112:Fact:=⟨123,[(.eptr (.agg (.gen [(.bool true),(.list (.ints .i64 [9,1,1])),(.list (.gen [(.agg (.gen [(iN 9),(iN 0),(.list (.ints .i64 [1,2]))]))]))])) 0),(.agg (.gen [(iN 0),(iN 2),(iN 1),(.list (.ints .i64 [3,255,0,0]))]))],(iN 1),none⟩
theorem ZsK:q112.ok:=fct [q111] ⟨ZxW,trivial⟩ (by kernel_rfl)
def q113:Fact:=⟨113,[(.list (.gen [(.list (.ints .i64 [9,1,1])),(.list (.ints .i64 [3,255,0,0]))]))],(.row 0 0),(some ⟨3,1,(.ints .i64 [9,1,1,3,255,0,0])⟩)⟩
theorem Zq4:q113.ok:=fct [] trivial (by kernel_rfl)
def q114:Fact:=⟨102,[(.list (.ints .i64 [3]))],(.row 0 0),(some ⟨3,1,(.ints .i64 [3])⟩)⟩
theorem ZqJ:q114.ok:=fct [] trivial (by kernel_rfl)
def q115:Fact:=⟨102,[(.list (.ints .i64 []))],(.list (.ints .i64 [])),(some ⟨0,0,(.gen [])⟩)⟩
theorem ZsN:q115.ok:=ZnX [] (by decide)
def q116:Fact:=⟨16,[(.agg (.gen [(iN 4),(iN 2)])),(iN 0),(.list (.big (.agg [(.int .i64),(.int .i64),(.int .i64),(.ints .i64)]) [(.agg (.gen [(iN 0),(iN 0),(iN 0),(.list (.ints .i64 [9,0,2,1]))])),(.agg (.gen [(iN 0),(iN 1),(iN 1),(.list (.ints .i64 [2,9,1,1]))])),(.agg (.gen [(iN 0),(iN 2),(iN 1),(.list (.ints .i64 [3,255,0,0]))]))]))],(.tup [(.list (.gen [(.agg (.gen [(iN 9),(iN 0),(.list (.ints .i64 [1,2]))])),(.agg (.gen [(iN 9),(iN 1),(.list (.ints .i64 [3]))]))])),(iN 0)]),none⟩
theorem Zxu:q116.ok:=fct [q94,q105,q106,q108,q109,q110,q112,q113,q114,q115] ⟨ZwN,Zrh,ZqN,Zra,Zq3,Zse,ZsK,Zq4,ZqJ,ZsN,trivial⟩ (by kernel_rfl)
def q122:Fact:=⟨77,[],(.row 0 0),(some ⟨49,3,(.big (.agg [(.int .i64),(.int .i64),(.int .i64)]) [(.agg (.gen [(iN 0),(iN 10),(iN 12)])),(.agg (.gen [(iN 10),(iN 30),(iN 32)])),(.agg (.gen [(iN 20),(iN 50),(iN 51)]))])⟩)⟩
theorem Zz2:q122.ok:=fct [] trivial (by kernel_rfl)
def q123:Fact:=⟨87,[(iN 0),(iN 0),(iN 1000000)],(.bool true),none⟩
theorem Zyf:q123.ok:=fct [] trivial (by kernel_rfl)
def q124:Fact:=⟨87,[(iN 10),(iN 0),(iN 1000000000000)],(.bool true),none⟩
theorem ZyF:q124.ok:=fct [] trivial (by kernel_rfl)
def q125:Fact:=⟨105,[(iN 10)],(.bool true),none⟩
theorem ZA6:q125.ok:=fct [q124] ⟨ZyF,trivial⟩ (by kernel_rfl)
def q126:Fact:=⟨87,[(iN 12),(iN 0),(iN 1000000000000)],(.bool true),none⟩
theorem ZAx:q126.ok:=fct [] trivial (by kernel_rfl)
def q127:Fact:=⟨105,[(iN 12)],(.bool true),none⟩
theorem ZAm:q127.ok:=fct [q126] ⟨ZAx,trivial⟩ (by kernel_rfl)
def q128:Fact:=⟨86,[(.bool true),(iN 9)],(iN 0),none⟩
theorem Zy6:q128.ok:=fct [] trivial (by kernel_rfl)
def q129:Fact:=⟨87,[(iN 10),(iN 0),(iN 1000000)],(.bool true),none⟩
theorem ZyL:q129.ok:=fct [] trivial (by kernel_rfl)
def q130:Fact:=⟨87,[(iN 30),(iN 0),(iN 1000000000000)],(.bool true),none⟩
theorem Zz4:q130.ok:=fct [] trivial (by kernel_rfl)
def q131:Fact:=⟨105,[(iN 30)],(.bool true),none⟩
theorem Zz5:q131.ok:=fct [q130] ⟨Zz4,trivial⟩ (by kernel_rfl)
def q132:Fact:=⟨87,[(iN 32),(iN 0),(iN 1000000000000)],(.bool true),none⟩
theorem ZBu:q132.ok:=fct [] trivial (by kernel_rfl)
def q133:Fact:=⟨105,[(iN 32)],(.bool true),none⟩
theorem ZBI:q133.ok:=fct [q132] ⟨ZBu,trivial⟩ (by kernel_rfl)
def q134:Fact:=⟨87,[(iN 20),(iN 0),(iN 1000000)],(.bool true),none⟩
theorem Zz6:q134.ok:=fct [] trivial (by kernel_rfl)
def q135:Fact:=⟨87,[(iN 50),(iN 0),(iN 1000000000000)],(.bool true),none⟩
theorem ZBy:q135.ok:=fct [] trivial (by kernel_rfl)
def q136:Fact:=⟨105,[(iN 50)],(.bool true),none⟩
theorem Zyo:q136.ok:=fct [q135] ⟨ZBy,trivial⟩ (by kernel_rfl)
def q137:Fact:=⟨87,[(iN 51),(iN 0),(iN 1000000000000)],(.bool true),none⟩
theorem ZAj:q137.ok:=fct [] trivial (by kernel_rfl)
def q138:Fact:=⟨105,[(iN 51)],(.bool true),none⟩
theorem ZyO:q138.ok:=fct [q137] ⟨ZAj,trivial⟩ (by kernel_rfl)
def q139:Fact:=⟨41,[(.list (.big (.agg [(.int .i64),(.int .i64),(.int .i64)]) [(.agg (.gen [(iN 0),(iN 10),(iN 12)])),(.agg (.gen [(iN 10),(iN 30),(iN 32)])),(.agg (.gen [(iN 20),(iN 50),(iN 51)]))]))],(.tup [(iN 0),(iN 0)]),none⟩
theorem ZBP:q139.ok:=fct [q0,q1,q32,q123,q125,q127,q4,q128,q129,q131,q133,q134,q136,q138] ⟨Zo0,Zpm,ZlK,Zyf,ZA6,ZAm,Zf0,Zy6,ZyL,Zz5,ZBI,Zz6,Zyo,ZyO,trivial⟩ (by kernel_rfl)
def q140:Fact:=⟨114,[(iN 18),(iN 10)],(.agg (.gen [(iN 9),(iN 5)])),none⟩
theorem Zxl:q140.ok:=fct [] trivial (by kernel_rfl)
def q141:Fact:=⟨114,[(iN 22),(iN 10)],(.agg (.gen [(iN 11),(iN 5)])),none⟩
theorem ZAA:q141.ok:=fct [] trivial (by kernel_rfl)
def q142:Fact:=⟨114,[(iN 38),(iN 20)],(.agg (.gen [(iN 19),(iN 10)])),none⟩
theorem ZB3:q142.ok:=fct [] trivial (by kernel_rfl)
def q143:Fact:=⟨114,[(iN 41),(iN 20)],(.agg (.gen [(iN 41),(iN 20)])),none⟩
theorem ZzM:q143.ok:=fct [] trivial (by kernel_rfl)
def q144:Fact:=⟨135,[(.agg (.gen [(iN 9),(iN 5)])),(.agg (.gen [(iN 19),(iN 10)]))],(.bool true),none⟩
theorem ZzZ:q144.ok:=fct [] trivial (by kernel_rfl)
def q145:Fact:=⟨135,[(.agg (.gen [(iN 41),(iN 20)])),(.agg (.gen [(iN 11),(iN 5)]))],(.bool true),none⟩
theorem Zxz:q145.ok:=fct [] trivial (by kernel_rfl)
def q146:Fact:=⟨114,[(iN 21),(iN 10)],(.agg (.gen [(iN 21),(iN 10)])),none⟩
theorem ZBK:q146.ok:=fct [] trivial (by kernel_rfl)
def q147:Fact:=⟨135,[(.agg (.gen [(iN 19),(iN 10)])),(.agg (.gen [(iN 9),(iN 5)]))],(.bool false),none⟩
theorem ZB0:q147.ok:=fct [] trivial (by kernel_rfl)
def q148:Fact:=⟨135,[(.agg (.gen [(iN 21),(iN 10)])),(.agg (.gen [(iN 41),(iN 20)]))],(.bool false),none⟩
theorem ZyC:q148.ok:=fct [] trivial (by kernel_rfl)
def q149:Fact:=⟨106,[(.list (.big (.agg [(.int .i64),(.int .i64),(.int .i64)]) [(.agg (.gen [(iN 0),(iN 10),(iN 12)])),(.agg (.gen [(iN 10),(iN 30),(iN 32)])),(.agg (.gen [(iN 20),(iN 50),(iN 51)]))]))],(.agg (.gen [(iN 19),(iN 10),(iN 41),(iN 20)])),none⟩
theorem ZsH:q149.ok:=fct [q140,q141,q142,q143,q144,q145,q146,q147,q148] ⟨Zxl,ZAA,ZB3,ZzM,ZzZ,Zxz,ZBK,ZB0,ZyC,trivial⟩ (by kernel_rfl)
def q150:Fact:=⟨135,[(.agg (.gen [(iN 41),(iN 20)])),(.agg (.gen [(iN 19),(iN 10)]))],(.bool false),none⟩
theorem ZBa:q150.ok:=fct [] trivial (by kernel_rfl)
def q151:Fact:=⟨107,[(.list (.big (.agg [(.int .i64),(.int .i64),(.int .i64)]) [(.agg (.gen [(iN 0),(iN 10),(iN 12)])),(.agg (.gen [(iN 10),(iN 30),(iN 32)])),(.agg (.gen [(iN 20),(iN 50),(iN 51)]))]))],(.bool true),none⟩
theorem ZyU:q151.ok:=fct [q149,q150] ⟨ZsH,ZBa,trivial⟩ (by kernel_rfl)
def q152:Fact:=⟨86,[(.bool true),(iN 13)],(iN 0),none⟩
theorem ZxZ:q152.ok:=fct [] trivial (by kernel_rfl)
def q153:Fact:=⟨85,[(.list (.big (.agg [(.int .i64),(.int .i64),(.int .i64)]) [(.agg (.gen [(iN 0),(iN 10),(iN 12)])),(.agg (.gen [(iN 10),(iN 30),(iN 32)])),(.agg (.gen [(iN 20),(iN 50),(iN 51)]))]))],(iN 0),none⟩
theorem Zss:q153.ok:=fct [q139,q0,q151,q152,q32] ⟨ZBP,Zo0,ZyU,ZxZ,ZlK,trivial⟩ (by kernel_rfl)
def q154:Fact:=⟨87,[(iN 19),(iN (-1000000000)),(iN 1000000000)],(.bool true),none⟩
theorem Zyh:q154.ok:=fct [] trivial (by kernel_rfl)
def q155:Fact:=⟨87,[(iN 41),(iN (-1000000000)),(iN 1000000000)],(.bool true),none⟩
theorem ZxD:q155.ok:=fct [] trivial (by kernel_rfl)
def q156:Fact:=⟨42,[(.list (.big (.agg [(.int .i64),(.int .i64),(.int .i64)]) [(.agg (.gen [(iN 0),(iN 10),(iN 12)])),(.agg (.gen [(iN 10),(iN 30),(iN 32)])),(.agg (.gen [(iN 20),(iN 50),(iN 51)]))]))],(.tup [(.agg (.gen [(iN 19),(iN 10),(iN 41),(iN 20)])),(iN 0)]),none⟩
theorem Zyn:q156.ok:=fct [q153,q149,q154,q155] ⟨Zss,ZsH,Zyh,ZxD,trivial⟩ (by kernel_rfl)
def q157:Fact:=⟨87,[(iN 30),(iN 0),(iN 1000000)],(.bool true),none⟩
theorem ZBh:q157.ok:=fct [] trivial (by kernel_rfl)
def q158:Fact:=⟨91,[(.agg (.gen [(iN 0),(iN 10),(iN 10),(iN 30)]))],(iN 10),none⟩
theorem Zgk:q158.ok:=fct [] trivial (by kernel_rfl)
def q159:Fact:=⟨89,[(.agg (.gen [(iN 0),(iN 10),(iN 10),(iN 30)])),(iN 0)],(iN 100),none⟩
theorem ZxG:q159.ok:=fct [q158] ⟨Zgk,trivial⟩ (by kernel_rfl)
def q160:Fact:=⟨87,[(iN 100),(iN 100),(iN 120)],(.bool true),none⟩
theorem Zns:q160.ok:=fct [] trivial (by kernel_rfl)
def q161:Fact:=⟨89,[(.agg (.gen [(iN 0),(iN 10),(iN 10),(iN 30)])),(iN 10)],(iN 300),none⟩
theorem ZBn:q161.ok:=fct [q158] ⟨Zgk,trivial⟩ (by kernel_rfl)
def q162:Fact:=⟨87,[(iN 300),(iN 300),(iN 320)],(.bool true),none⟩
theorem ZmK:q162.ok:=fct [] trivial (by kernel_rfl)
def q163:Fact:=⟨89,[(.agg (.gen [(iN 0),(iN 10),(iN 10),(iN 30)])),(iN 20)],(iN 500),none⟩
theorem ZAK:q163.ok:=fct [q158] ⟨Zgk,trivial⟩ (by kernel_rfl)
def q164:Fact:=⟨87,[(iN 500),(iN 500),(iN 510)],(.bool true),none⟩
theorem Zrj:q164.ok:=fct [] trivial (by kernel_rfl)
def q165:Fact:=⟨126,[(.agg (.gen [(iN 0),(iN 10),(iN 10),(iN 30)])),(.list (.big (.agg [(.int .i64),(.int .i64),(.int .i64)]) [(.agg (.gen [(iN 0),(iN 10),(iN 12)])),(.agg (.gen [(iN 10),(iN 30),(iN 32)])),(.agg (.gen [(iN 20),(iN 50),(iN 51)]))]))],(.bool true),none⟩
theorem ZyH:q165.ok:=fct [q159,q158,q160,q161,q162,q163,q164] ⟨ZxG,Zgk,Zns,ZBn,ZmK,ZAK,Zrj,trivial⟩ (by kernel_rfl)
def q166:Fact:=⟨89,[(.agg (.gen [(iN 0),(iN 10),(iN 10),(iN 30)])),(iN 30)],(iN 700),none⟩
theorem ZzU:q166.ok:=fct [q158] ⟨Zgk,trivial⟩ (by kernel_rfl)
def q167:Fact:=⟨90,[(iN 700),(iN 10)],(iN 70),none⟩
theorem ZA2:q167.ok:=fct [] trivial (by kernel_rfl)
def q168:Fact:=⟨90,[(iN (-700)),(iN 10)],(iN (-70)),none⟩
theorem ZzD:q168.ok:=fct [] trivial (by kernel_rfl)
def q169:Fact:=⟨91,[(.agg (.gen [(iN 0),(iN 10),(iN 10),(iN 32)]))],(iN 10),none⟩
theorem Zj6:q169.ok:=fct [] trivial (by kernel_rfl)
def q170:Fact:=⟨89,[(.agg (.gen [(iN 0),(iN 10),(iN 10),(iN 32)])),(iN 0)],(iN 100),none⟩
theorem Zxn:q170.ok:=fct [q169] ⟨Zj6,trivial⟩ (by kernel_rfl)
def q171:Fact:=⟨89,[(.agg (.gen [(iN 0),(iN 10),(iN 10),(iN 32)])),(iN 10)],(iN 320),none⟩
theorem Zzg:q171.ok:=fct [q169] ⟨Zj6,trivial⟩ (by kernel_rfl)
def q172:Fact:=⟨87,[(iN 320),(iN 300),(iN 320)],(.bool true),none⟩
theorem Zsf:q172.ok:=fct [] trivial (by kernel_rfl)
def q173:Fact:=⟨89,[(.agg (.gen [(iN 0),(iN 10),(iN 10),(iN 32)])),(iN 20)],(iN 540),none⟩
theorem ZA5:q173.ok:=fct [q169] ⟨Zj6,trivial⟩ (by kernel_rfl)
def q174:Fact:=⟨87,[(iN 540),(iN 500),(iN 510)],(.bool false),none⟩
theorem Zy1:q174.ok:=fct [] trivial (by kernel_rfl)
def q175:Fact:=⟨126,[(.agg (.gen [(iN 0),(iN 10),(iN 10),(iN 32)])),(.list (.big (.agg [(.int .i64),(.int .i64),(.int .i64)]) [(.agg (.gen [(iN 0),(iN 10),(iN 12)])),(.agg (.gen [(iN 10),(iN 30),(iN 32)])),(.agg (.gen [(iN 20),(iN 50),(iN 51)]))]))],(.bool false),none⟩
theorem ZzG:q175.ok:=fct [q170,q169,q160,q171,q172,q173,q174] ⟨Zxn,Zj6,Zns,Zzg,Zsf,ZA5,Zy1,trivial⟩ (by kernel_rfl)
def q176:Fact:=⟨91,[(.agg (.gen [(iN 0),(iN 12),(iN 10),(iN 30)]))],(iN 10),none⟩
theorem Zj4:q176.ok:=fct [] trivial (by kernel_rfl)
def q177:Fact:=⟨89,[(.agg (.gen [(iN 0),(iN 12),(iN 10),(iN 30)])),(iN 0)],(iN 120),none⟩
theorem ZAL:q177.ok:=fct [q176] ⟨Zj4,trivial⟩ (by kernel_rfl)
def q178:Fact:=⟨87,[(iN 120),(iN 100),(iN 120)],(.bool true),none⟩
theorem ZsE:q178.ok:=fct [] trivial (by kernel_rfl)
def q179:Fact:=⟨89,[(.agg (.gen [(iN 0),(iN 12),(iN 10),(iN 30)])),(iN 10)],(iN 300),none⟩
theorem ZzO:q179.ok:=fct [q176] ⟨Zj4,trivial⟩ (by kernel_rfl)
def q180:Fact:=⟨89,[(.agg (.gen [(iN 0),(iN 12),(iN 10),(iN 30)])),(iN 20)],(iN 480),none⟩
theorem ZAV:q180.ok:=fct [q176] ⟨Zj4,trivial⟩ (by kernel_rfl)
def q181:Fact:=⟨87,[(iN 480),(iN 500),(iN 510)],(.bool false),none⟩
theorem ZBj:q181.ok:=fct [] trivial (by kernel_rfl)
def q182:Fact:=⟨126,[(.agg (.gen [(iN 0),(iN 12),(iN 10),(iN 30)])),(.list (.big (.agg [(.int .i64),(.int .i64),(.int .i64)]) [(.agg (.gen [(iN 0),(iN 10),(iN 12)])),(.agg (.gen [(iN 10),(iN 30),(iN 32)])),(.agg (.gen [(iN 20),(iN 50),(iN 51)]))]))],(.bool false),none⟩
theorem ZxN:q182.ok:=fct [q177,q176,q178,q179,q162,q180,q181] ⟨ZAL,Zj4,ZsE,ZzO,ZmK,ZAV,ZBj,trivial⟩ (by kernel_rfl)
def q183:Fact:=⟨91,[(.agg (.gen [(iN 0),(iN 12),(iN 10),(iN 32)]))],(iN 10),none⟩
theorem Zkb:q183.ok:=fct [] trivial (by kernel_rfl)
def q184:Fact:=⟨89,[(.agg (.gen [(iN 0),(iN 12),(iN 10),(iN 32)])),(iN 0)],(iN 120),none⟩
theorem ZAY:q184.ok:=fct [q183] ⟨Zkb,trivial⟩ (by kernel_rfl)
def q185:Fact:=⟨89,[(.agg (.gen [(iN 0),(iN 12),(iN 10),(iN 32)])),(iN 10)],(iN 320),none⟩
theorem Zx5:q185.ok:=fct [q183] ⟨Zkb,trivial⟩ (by kernel_rfl)
def q186:Fact:=⟨89,[(.agg (.gen [(iN 0),(iN 12),(iN 10),(iN 32)])),(iN 20)],(iN 520),none⟩
theorem ZzT:q186.ok:=fct [q183] ⟨Zkb,trivial⟩ (by kernel_rfl)
def q187:Fact:=⟨87,[(iN 520),(iN 500),(iN 510)],(.bool false),none⟩
theorem ZA0:q187.ok:=fct [] trivial (by kernel_rfl)
def q188:Fact:=⟨126,[(.agg (.gen [(iN 0),(iN 12),(iN 10),(iN 32)])),(.list (.big (.agg [(.int .i64),(.int .i64),(.int .i64)]) [(.agg (.gen [(iN 0),(iN 10),(iN 12)])),(.agg (.gen [(iN 10),(iN 30),(iN 32)])),(.agg (.gen [(iN 20),(iN 50),(iN 51)]))]))],(.bool false),none⟩
theorem Zxp:q188.ok:=fct [q184,q183,q178,q185,q172,q186,q187] ⟨ZAY,Zkb,ZsE,Zx5,Zsf,ZzT,ZA0,trivial⟩ (by kernel_rfl)
def q189:Fact:=⟨91,[(.agg (.gen [(iN 0),(iN 10),(iN 20),(iN 50)]))],(iN 20),none⟩
theorem ZgP:q189.ok:=fct [] trivial (by kernel_rfl)
def q190:Fact:=⟨89,[(.agg (.gen [(iN 0),(iN 10),(iN 20),(iN 50)])),(iN 0)],(iN 200),none⟩
theorem ZzK:q190.ok:=fct [q189] ⟨ZgP,trivial⟩ (by kernel_rfl)
def q191:Fact:=⟨87,[(iN 200),(iN 200),(iN 240)],(.bool true),none⟩
theorem ZqR:q191.ok:=fct [] trivial (by kernel_rfl)
def q192:Fact:=⟨89,[(.agg (.gen [(iN 0),(iN 10),(iN 20),(iN 50)])),(iN 10)],(iN 600),none⟩
theorem Zzx:q192.ok:=fct [q189] ⟨ZgP,trivial⟩ (by kernel_rfl)
def q193:Fact:=⟨87,[(iN 600),(iN 600),(iN 640)],(.bool true),none⟩
theorem Zxr:q193.ok:=fct [] trivial (by kernel_rfl)
def q194:Fact:=⟨89,[(.agg (.gen [(iN 0),(iN 10),(iN 20),(iN 50)])),(iN 20)],(iN 1000),none⟩
theorem Zzp:q194.ok:=fct [q189] ⟨ZgP,trivial⟩ (by kernel_rfl)
def q195:Fact:=⟨87,[(iN 1000),(iN 1000),(iN 1020)],(.bool true),none⟩
theorem ZsI:q195.ok:=fct [] trivial (by kernel_rfl)
def q196:Fact:=⟨126,[(.agg (.gen [(iN 0),(iN 10),(iN 20),(iN 50)])),(.list (.big (.agg [(.int .i64),(.int .i64),(.int .i64)]) [(.agg (.gen [(iN 0),(iN 10),(iN 12)])),(.agg (.gen [(iN 10),(iN 30),(iN 32)])),(.agg (.gen [(iN 20),(iN 50),(iN 51)]))]))],(.bool true),none⟩
theorem ZxK:q196.ok:=fct [q190,q189,q191,q192,q193,q194,q195] ⟨ZzK,ZgP,ZqR,Zzx,Zxr,Zzp,ZsI,trivial⟩ (by kernel_rfl)
def q197:Fact:=⟨89,[(.agg (.gen [(iN 0),(iN 10),(iN 20),(iN 50)])),(iN 30)],(iN 1400),none⟩
theorem ZBV:q197.ok:=fct [q189] ⟨ZgP,trivial⟩ (by kernel_rfl)
def q198:Fact:=⟨90,[(iN 1400),(iN 20)],(iN 70),none⟩
theorem ZyJ:q198.ok:=fct [] trivial (by kernel_rfl)
def q199:Fact:=⟨90,[(iN (-1400)),(iN 20)],(iN (-70)),none⟩
theorem Zxv:q199.ok:=fct [] trivial (by kernel_rfl)
def q200:Fact:=⟨91,[(.agg (.gen [(iN 0),(iN 10),(iN 20),(iN 51)]))],(iN 20),none⟩
theorem ZgQ:q200.ok:=fct [] trivial (by kernel_rfl)
def q201:Fact:=⟨89,[(.agg (.gen [(iN 0),(iN 10),(iN 20),(iN 51)])),(iN 0)],(iN 200),none⟩
theorem ZAa:q201.ok:=fct [q200] ⟨ZgQ,trivial⟩ (by kernel_rfl)
def q202:Fact:=⟨89,[(.agg (.gen [(iN 0),(iN 10),(iN 20),(iN 51)])),(iN 10)],(iN 610),none⟩
theorem ZAC:q202.ok:=fct [q200] ⟨ZgQ,trivial⟩ (by kernel_rfl)
def q203:Fact:=⟨87,[(iN 610),(iN 600),(iN 640)],(.bool true),none⟩
theorem Zzy:q203.ok:=fct [] trivial (by kernel_rfl)
def q204:Fact:=⟨89,[(.agg (.gen [(iN 0),(iN 10),(iN 20),(iN 51)])),(iN 20)],(iN 1020),none⟩
theorem Zz9:q204.ok:=fct [q200] ⟨ZgQ,trivial⟩ (by kernel_rfl)
def q205:Fact:=⟨87,[(iN 1020),(iN 1000),(iN 1020)],(.bool true),none⟩
theorem Zsi:q205.ok:=fct [] trivial (by kernel_rfl)
def q206:Fact:=⟨126,[(.agg (.gen [(iN 0),(iN 10),(iN 20),(iN 51)])),(.list (.big (.agg [(.int .i64),(.int .i64),(.int .i64)]) [(.agg (.gen [(iN 0),(iN 10),(iN 12)])),(.agg (.gen [(iN 10),(iN 30),(iN 32)])),(.agg (.gen [(iN 20),(iN 50),(iN 51)]))]))],(.bool true),none⟩
theorem Zx9:q206.ok:=fct [q201,q200,q191,q202,q203,q204,q205] ⟨ZAa,ZgQ,ZqR,ZAC,Zzy,Zz9,Zsi,trivial⟩ (by kernel_rfl)
def q207:Fact:=⟨89,[(.agg (.gen [(iN 0),(iN 10),(iN 20),(iN 51)])),(iN 30)],(iN 1430),none⟩
theorem Zy0:q207.ok:=fct [q200] ⟨ZgQ,trivial⟩ (by kernel_rfl)
def q208:Fact:=⟨90,[(iN 1430),(iN 20)],(iN 71),none⟩
theorem ZBl:q208.ok:=fct [] trivial (by kernel_rfl)
def q209:Fact:=⟨90,[(iN (-1430)),(iN 20)],(iN (-72)),none⟩
theorem ZBC:q209.ok:=fct [] trivial (by kernel_rfl)
def q210:Fact:=⟨91,[(.agg (.gen [(iN 0),(iN 12),(iN 20),(iN 50)]))],(iN 20),none⟩
theorem ZgK:q210.ok:=fct [] trivial (by kernel_rfl)
def q211:Fact:=⟨89,[(.agg (.gen [(iN 0),(iN 12),(iN 20),(iN 50)])),(iN 0)],(iN 240),none⟩
theorem Zzm:q211.ok:=fct [q210] ⟨ZgK,trivial⟩ (by kernel_rfl)
def q212:Fact:=⟨87,[(iN 240),(iN 200),(iN 240)],(.bool true),none⟩
theorem Zq9:q212.ok:=fct [] trivial (by kernel_rfl)
def q213:Fact:=⟨89,[(.agg (.gen [(iN 0),(iN 12),(iN 20),(iN 50)])),(iN 10)],(iN 620),none⟩
theorem Zxy:q213.ok:=fct [q210] ⟨ZgK,trivial⟩ (by kernel_rfl)
def q214:Fact:=⟨87,[(iN 620),(iN 600),(iN 640)],(.bool true),none⟩
theorem ZA9:q214.ok:=fct [] trivial (by kernel_rfl)
def q215:Fact:=⟨89,[(.agg (.gen [(iN 0),(iN 12),(iN 20),(iN 50)])),(iN 20)],(iN 1000),none⟩
theorem ZAz:q215.ok:=fct [q210] ⟨ZgK,trivial⟩ (by kernel_rfl)
def q216:Fact:=⟨126,[(.agg (.gen [(iN 0),(iN 12),(iN 20),(iN 50)])),(.list (.big (.agg [(.int .i64),(.int .i64),(.int .i64)]) [(.agg (.gen [(iN 0),(iN 10),(iN 12)])),(.agg (.gen [(iN 10),(iN 30),(iN 32)])),(.agg (.gen [(iN 20),(iN 50),(iN 51)]))]))],(.bool true),none⟩
theorem ZAv:q216.ok:=fct [q211,q210,q212,q213,q214,q215,q195] ⟨Zzm,ZgK,Zq9,Zxy,ZA9,ZAz,ZsI,trivial⟩ (by kernel_rfl)
def q217:Fact:=⟨89,[(.agg (.gen [(iN 0),(iN 12),(iN 20),(iN 50)])),(iN 30)],(iN 1380),none⟩
theorem ZAR:q217.ok:=fct [q210] ⟨ZgK,trivial⟩ (by kernel_rfl)
def q218:Fact:=⟨90,[(iN 1380),(iN 20)],(iN 69),none⟩
theorem ZBS:q218.ok:=fct [] trivial (by kernel_rfl)
def q219:Fact:=⟨90,[(iN (-1380)),(iN 20)],(iN (-69)),none⟩
theorem ZyN:q219.ok:=fct [] trivial (by kernel_rfl)
def q220:Fact:=⟨91,[(.agg (.gen [(iN 0),(iN 12),(iN 20),(iN 51)]))],(iN 20),none⟩
theorem Zgo:q220.ok:=fct [] trivial (by kernel_rfl)
def q221:Fact:=⟨89,[(.agg (.gen [(iN 0),(iN 12),(iN 20),(iN 51)])),(iN 0)],(iN 240),none⟩
theorem ZxM:q221.ok:=fct [q220] ⟨Zgo,trivial⟩ (by kernel_rfl)
def q222:Fact:=⟨89,[(.agg (.gen [(iN 0),(iN 12),(iN 20),(iN 51)])),(iN 10)],(iN 630),none⟩
theorem ZxR:q222.ok:=fct [q220] ⟨Zgo,trivial⟩ (by kernel_rfl)
def q223:Fact:=⟨87,[(iN 630),(iN 600),(iN 640)],(.bool true),none⟩
theorem ZAn:q223.ok:=fct [] trivial (by kernel_rfl)
def q224:Fact:=⟨89,[(.agg (.gen [(iN 0),(iN 12),(iN 20),(iN 51)])),(iN 20)],(iN 1020),none⟩
theorem Zyt:q224.ok:=fct [q220] ⟨Zgo,trivial⟩ (by kernel_rfl)
def q225:Fact:=⟨126,[(.agg (.gen [(iN 0),(iN 12),(iN 20),(iN 51)])),(.list (.big (.agg [(.int .i64),(.int .i64),(.int .i64)]) [(.agg (.gen [(iN 0),(iN 10),(iN 12)])),(.agg (.gen [(iN 10),(iN 30),(iN 32)])),(.agg (.gen [(iN 20),(iN 50),(iN 51)]))]))],(.bool true),none⟩
theorem ZzW:q225.ok:=fct [q221,q220,q212,q222,q223,q224,q205] ⟨ZxM,Zgo,Zq9,ZxR,ZAn,Zyt,Zsi,trivial⟩ (by kernel_rfl)
def q226:Fact:=⟨89,[(.agg (.gen [(iN 0),(iN 12),(iN 20),(iN 51)])),(iN 30)],(iN 1410),none⟩
theorem Zym:q226.ok:=fct [q220] ⟨Zgo,trivial⟩ (by kernel_rfl)
def q227:Fact:=⟨90,[(iN 1410),(iN 20)],(iN 70),none⟩
theorem ZAc:q227.ok:=fct [] trivial (by kernel_rfl)
def q228:Fact:=⟨90,[(iN (-1410)),(iN 20)],(iN (-71)),none⟩
theorem ZAN:q228.ok:=fct [] trivial (by kernel_rfl)
def q229:Fact:=⟨91,[(.agg (.gen [(iN 10),(iN 30),(iN 20),(iN 50)]))],(iN 10),none⟩
theorem Zgy:q229.ok:=fct [] trivial (by kernel_rfl)
def q230:Fact:=⟨89,[(.agg (.gen [(iN 10),(iN 30),(iN 20),(iN 50)])),(iN 0)],(iN 100),none⟩
theorem ZzL:q230.ok:=fct [q229] ⟨Zgy,trivial⟩ (by kernel_rfl)
def q231:Fact:=⟨89,[(.agg (.gen [(iN 10),(iN 30),(iN 20),(iN 50)])),(iN 10)],(iN 300),none⟩
theorem ZAg:q231.ok:=fct [q229] ⟨Zgy,trivial⟩ (by kernel_rfl)
def q232:Fact:=⟨89,[(.agg (.gen [(iN 10),(iN 30),(iN 20),(iN 50)])),(iN 20)],(iN 500),none⟩
theorem ZBw:q232.ok:=fct [q229] ⟨Zgy,trivial⟩ (by kernel_rfl)
def q233:Fact:=⟨126,[(.agg (.gen [(iN 10),(iN 30),(iN 20),(iN 50)])),(.list (.big (.agg [(.int .i64),(.int .i64),(.int .i64)]) [(.agg (.gen [(iN 0),(iN 10),(iN 12)])),(.agg (.gen [(iN 10),(iN 30),(iN 32)])),(.agg (.gen [(iN 20),(iN 50),(iN 51)]))]))],(.bool true),none⟩
theorem ZzJ:q233.ok:=fct [q230,q229,q160,q231,q162,q232,q164] ⟨ZzL,Zgy,Zns,ZAg,ZmK,ZBw,Zrj,trivial⟩ (by kernel_rfl)
def q234:Fact:=⟨89,[(.agg (.gen [(iN 10),(iN 30),(iN 20),(iN 50)])),(iN 30)],(iN 700),none⟩
theorem ZzR:q234.ok:=fct [q229] ⟨Zgy,trivial⟩ (by kernel_rfl)
def q235:Fact:=⟨91,[(.agg (.gen [(iN 10),(iN 30),(iN 20),(iN 51)]))],(iN 10),none⟩
theorem Zsa:q235.ok:=fct [] trivial (by kernel_rfl)
def q236:Fact:=⟨89,[(.agg (.gen [(iN 10),(iN 30),(iN 20),(iN 51)])),(iN 0)],(iN 90),none⟩
theorem ZxQ:q236.ok:=fct [q235] ⟨Zsa,trivial⟩ (by kernel_rfl)
def q237:Fact:=⟨87,[(iN 90),(iN 100),(iN 120)],(.bool false),none⟩
theorem Zxw:q237.ok:=fct [] trivial (by kernel_rfl)
def q238:Fact:=⟨126,[(.agg (.gen [(iN 10),(iN 30),(iN 20),(iN 51)])),(.list (.big (.agg [(.int .i64),(.int .i64),(.int .i64)]) [(.agg (.gen [(iN 0),(iN 10),(iN 12)])),(.agg (.gen [(iN 10),(iN 30),(iN 32)])),(.agg (.gen [(iN 20),(iN 50),(iN 51)]))]))],(.bool false),none⟩
theorem ZBD:q238.ok:=fct [q236,q235,q237] ⟨ZxQ,Zsa,Zxw,trivial⟩ (by kernel_rfl)
def q239:Fact:=⟨91,[(.agg (.gen [(iN 10),(iN 32),(iN 20),(iN 50)]))],(iN 10),none⟩
theorem ZrT:q239.ok:=fct [] trivial (by kernel_rfl)
def q240:Fact:=⟨89,[(.agg (.gen [(iN 10),(iN 32),(iN 20),(iN 50)])),(iN 0)],(iN 140),none⟩
theorem ZAE:q240.ok:=fct [q239] ⟨ZrT,trivial⟩ (by kernel_rfl)
def q241:Fact:=⟨87,[(iN 140),(iN 100),(iN 120)],(.bool false),none⟩
theorem ZzI:q241.ok:=fct [] trivial (by kernel_rfl)
def q242:Fact:=⟨126,[(.agg (.gen [(iN 10),(iN 32),(iN 20),(iN 50)])),(.list (.big (.agg [(.int .i64),(.int .i64),(.int .i64)]) [(.agg (.gen [(iN 0),(iN 10),(iN 12)])),(.agg (.gen [(iN 10),(iN 30),(iN 32)])),(.agg (.gen [(iN 20),(iN 50),(iN 51)]))]))],(.bool false),none⟩
theorem ZBt:q242.ok:=fct [q240,q239,q241] ⟨ZAE,ZrT,ZzI,trivial⟩ (by kernel_rfl)
def q243:Fact:=⟨91,[(.agg (.gen [(iN 10),(iN 32),(iN 20),(iN 51)]))],(iN 10),none⟩
theorem ZsM:q243.ok:=fct [] trivial (by kernel_rfl)
def q244:Fact:=⟨89,[(.agg (.gen [(iN 10),(iN 32),(iN 20),(iN 51)])),(iN 0)],(iN 130),none⟩
theorem ZBo:q244.ok:=fct [q243] ⟨ZsM,trivial⟩ (by kernel_rfl)
def q245:Fact:=⟨87,[(iN 130),(iN 100),(iN 120)],(.bool false),none⟩
theorem Zye:q245.ok:=fct [] trivial (by kernel_rfl)
def q246:Fact:=⟨126,[(.agg (.gen [(iN 10),(iN 32),(iN 20),(iN 51)])),(.list (.big (.agg [(.int .i64),(.int .i64),(.int .i64)]) [(.agg (.gen [(iN 0),(iN 10),(iN 12)])),(.agg (.gen [(iN 10),(iN 30),(iN 32)])),(.agg (.gen [(iN 20),(iN 50),(iN 51)]))]))],(.bool false),none⟩
theorem Zyc:q246.ok:=fct [q244,q243,q245] ⟨ZBo,ZsM,Zye,trivial⟩ (by kernel_rfl)
def q247:Fact:=⟨23,[(.list (.big (.agg [(.int .i64),(.int .i64),(.int .i64)]) [(.agg (.gen [(iN 0),(iN 10),(iN 12)])),(.agg (.gen [(iN 10),(iN 30),(iN 32)])),(.agg (.gen [(iN 20),(iN 50),(iN 51)]))])),(iN 30)],(.tup [(.agg (.gen [(iN 69),(iN 72)])),(iN 0)]),none⟩
theorem Zyl:q247.ok:=fct [q153,q157,q4,q32,q165,q166,q158,q167,q168,q175,q182,q188,q196,q197,q189,q198,q199,q206,q207,q200,q208,q209,q216,q217,q210,q218,q219,q225,q226,q220,q227,q228,q233,q234,q229,q238,q242,q246] ⟨Zss,ZBh,Zf0,ZlK,ZyH,ZzU,Zgk,ZA2,ZzD,ZzG,ZxN,Zxp,ZxK,ZBV,ZgP,ZyJ,Zxv,Zx9,Zy0,ZgQ,ZBl,ZBC,ZAv,ZAR,ZgK,ZBS,ZyN,ZzW,Zym,Zgo,ZAc,ZAN,ZzJ,ZzR,Zgy,ZBD,ZBt,Zyc,trivial⟩ (by kernel_rfl)
def q248:Fact:=⟨67,[(.list (.ints .i64 [3,255,0,0])),(.list (.ints .i64 [3,255,0,0]))],(.bool true),none⟩
theorem ZA8:q248.ok:=fct [] trivial (by kernel_rfl)
def q249:Fact:=⟨67,[(.list (.ints .i64 [1,2])),(.list (.ints .i64 [1,2]))],(.bool true),none⟩
theorem Zy5:q249.ok:=fct [] trivial (by kernel_rfl)
def q250:Fact:=⟨81,[(.agg (.gen [(iN 9),(iN 0),(.list (.ints .i64 [1,2]))])),(.agg (.gen [(iN 9),(iN 0),(.list (.ints .i64 [1,2]))]))],(.bool true),none⟩
theorem Zyx:q250.ok:=fct [q249] ⟨Zy5,trivial⟩ (by kernel_rfl)
def q251:Fact:=⟨67,[(.list (.ints .i64 [3])),(.list (.ints .i64 [3]))],(.bool true),none⟩
theorem Zy3:q251.ok:=fct [] trivial (by kernel_rfl)
def q252:Fact:=⟨81,[(.agg (.gen [(iN 9),(iN 1),(.list (.ints .i64 [3]))])),(.agg (.gen [(iN 9),(iN 1),(.list (.ints .i64 [3]))]))],(.bool true),none⟩
theorem Zyd:q252.ok:=fct [q251] ⟨Zy3,trivial⟩ (by kernel_rfl)
def q253:Fact:=⟨21,[(.list (.gen [(.agg (.gen [(iN 9),(iN 0),(.list (.ints .i64 [1,2]))])),(.agg (.gen [(iN 9),(iN 1),(.list (.ints .i64 [3]))]))])),(.list (.gen [(.agg (.gen [(iN 9),(iN 0),(.list (.ints .i64 [1,2]))])),(.agg (.gen [(iN 9),(iN 1),(.list (.ints .i64 [3]))]))]))],(.bool true),none⟩
theorem ZBs:q253.ok:=fct [q250,q252] ⟨Zyx,Zyd,trivial⟩ (by kernel_rfl)
def q254:Fact:=⟨14,[],(.bool true),none⟩
theorem Zzq:q254.ok:=fct [q22,q23,q24,q68,q75,q116,q94,q105,q101,q104,q102,q103,q106,q108,q109,q110,q112,q113,q114,q115,q122,q156,q247,q248,q253] ⟨ZEP,ZH9,ZH1,ZID,ZHR,Zxu,ZwN,Zrh,Zsg,ZsV,Znw,ZmT,ZqN,Zra,Zq3,Zse,ZsK,Zq4,ZqJ,ZsN,Zz2,Zyn,Zyl,ZA8,ZBs,trivial⟩ (by kernel_rfl)
end Go.Proofs.Ytjhdnpmojhkbjaa
/- Paths of functions, printed by the explorer (Gx). No condition. -/
namespace Go.Proofs.Ytjhdnpmojhkbjaa
set_option maxRecDepth 100000
set_option linter.unusedVariables false
def ZIT(a:Int)(b:Int):AFrame:={ fn:=18,N:=13,env:=[(0,AV.agg (Row.gen [AV.int .i64 a,AV.int .i64 b]))],todo:=[.code a18.code],defs:=[],rnd:=none,ret:=false,res:=[ARes.tmp 2] }
def ZKA(a:Int)(b:Int):List AFrame:=[(ZIT a b)]
theorem ZBp(a:Int)(b:Int):Zak tab 18 [AV.agg (Row.gen [AV.int .i64 a,AV.int .i64 b])]=some (ZIT a b):=rfl
theorem ZMc(A:Ar)(a b:Int):Zaz A tab B1 26 [true,true,true,true,true,true] 18 (ZKA a b) []=
 some (tr [12,7] [A.not (decide (4≤a∧a≤24))],
  AV.int .i64 2,none):=by kernel_rfl
theorem ZNt(A:Ar)(a b:Int):Zaz A tab B1 26 [false,false,false,false,false,true] 18 (ZKA a b) []=
 some (tr [2,9,7] [A.not (decide (1≤b∧b≤4)),!A.not (decide (4≤a∧a≤24))],
  AV.int .i64 2,none):=by kernel_rfl
theorem ZKk(A:Ar)(a b:Int):Zaz A tab B1 27 [false,false,false,false,false,false] 18 (ZKA a b) []=
 some (tr [2,9,7] [!A.not (decide (1≤b∧b≤4)),!A.not (decide (4≤a∧a≤24))],
  AV.int .i64 0,none):=by kernel_rfl
def ZCt(a:Int)(b:Int)(n:Int):AFrame:={ fn:=19,N:=11,env:=[(0,AV.agg (Row.gen [AV.int .i64 a,AV.int .i64 b])),(1,AV.int .i64 n)],todo:=[.code a19.code],defs:=[],rnd:=none,ret:=false,res:=[ARes.tmp 4] }
def ZOd(a:Int)(b:Int)(n:Int):List AFrame:=[(ZCt a b n)]
theorem Zx2(a:Int)(b:Int)(n:Int):Zak tab 19 [AV.agg (Row.gen [AV.int .i64 a,AV.int .i64 b]),AV.int .i64 n]=some (ZCt a b n):=rfl
theorem ZKi(A:Ar)(a b n:Int):Zaz A tab B1 21 [true] 19 (ZOd a b n) []=
 some (tr [2,2,5] [A.not (decide (0≤n∧n≤A.sub b 1)),A.inR .i64 (A.sub b 1)],
  AV.int .i64 6,none):=by kernel_rfl
theorem ZLv(A:Ar)(a b n:Int):Zaz A tab B1 22 [false] 19 (ZOd a b n) []=
 some (tr [2,2,5] [!A.not (decide (0≤n∧n≤A.sub b 1)),A.inR .i64 (A.sub b 1)],
  AV.int .i64 0,none):=by kernel_rfl
def ZDB(a:Int)(b:Int):AFrame:={ fn:=63,N:=12,env:=[(0,AV.agg (Row.gen [AV.int .i64 a,AV.int .i64 b]))],todo:=[.code a63.code],defs:=[],rnd:=none,ret:=false,res:=[ARes.tmp 2] }
def ZNV(a:Int)(b:Int):List AFrame:=[(ZDB a b)]
theorem Zx7(a:Int)(b:Int):Zak tab 63 [AV.agg (Row.gen [AV.int .i64 a,AV.int .i64 b])]=some (ZDB a b):=rfl
theorem ZMa(A:Ar)(a b:Int):Zaz A tab B1 20 [true,true,true,true] 63 (ZNV a b) []=
 some (tr [10,6] [decide (4≤a∧a≤24)],
  AV.int .i64 (Zal (decide (1≤b∧b≤4)) 2),none):=by kernel_rfl
theorem ZLk(A:Ar)(a b:Int):Zaz A tab B1 20 [false,false,false,false] 63 (ZNV a b) []=
 some (tr [10,6] [!decide (4≤a∧a≤24)],
  AV.int .i64 2,none):=by kernel_rfl
def Zve(a:Int)(b:Int)(n:Int):AFrame:={ fn:=131,N:=12,env:=[(0,AV.agg (Row.gen [AV.int .i64 a,AV.int .i64 b])),(1,AV.int .i64 n)],todo:=[.code a131.code],defs:=[],rnd:=none,ret:=false,res:=[ARes.tmp 4] }
def ZM0(a:Int)(b:Int)(n:Int):List AFrame:=[(Zve a b n)]
theorem Zt4(a:Int)(b:Int)(n:Int):Zak tab 131 [AV.agg (Row.gen [AV.int .i64 a,AV.int .i64 b]),AV.int .i64 n]=some (Zve a b n):=rfl
theorem ZJl(A:Ar)(a b n:Int):Zaz A tab B1 18 [] 131 (ZM0 a b n) []=
 some (tr [11] [],
  AV.int .i64 (Zal (decide (0≤n∧n≤Go.IntKind.wrap .i64 (A.sub b 1))) 6),none):=by kernel_rfl
def ZDF(xs:List Int):AFrame:={ fn:=94,N:=5,env:=[(0,AV.list (.ints .i64 xs))],todo:=[.code a94.code],defs:=[],rnd:=none,ret:=false,res:=[ARes.tmp 2] }
def ZQc(xs:List Int):List AFrame:=[(ZDF xs)]
theorem Zyw(xs:List Int):Zak tab 94 [AV.list (.ints .i64 xs)]=some (ZDF xs):=rfl
theorem ZMH(A:Ar)(xs:List Int):Zaz A tab B1 11 [] 94 (ZQc xs) []=
 some (tr [2,2] [decide (List.length xs≤1000000)],
  AV.int .i64 (ZaG xs),none):=by kernel_rfl
def ZvH(xs:List AV):AFrame:={ fn:=113,N:=36,env:=[(0,AV.list (Row.big (Sh.ints .i64) xs))],todo:=[.code a113.code],defs:=[],rnd:=none,ret:=false,res:=[ARes.tmp 2] }
def ZL8(xs:List AV):List AFrame:=[(ZvH xs)]
theorem Zuh(xs:List AV):Zak tab 113 [AV.list (Row.big (Sh.ints .i64) xs)]=some (ZvH xs):=rfl
def Zfx(xs:List AV)(n0 n1 n2:Int):List AFrame:=[{ fn:=113,N:=36,env:=[(0,AV.list (Row.big (Sh.ints .i64) xs)),(3,AV.int .i64 n1),(9,AV.list (Row.big (Sh.ints .i64) xs)),(10,AV.int .i64 n0),(11,AV.int .i64 n2)],todo:=.code (ACode.gh [] Zu3)::ZCE,defs:=[],rnd:=none,ret:=false,res:=[ARes.tmp 2] }]
def Zei(xs:List AV)(n0:Int)(n1:Int)(n2:Int):Zaa:=[]
abbrev ZgX(xs:List AV)(n0:Int)(n1:Int)(n2:Int):List AFrame×Zaa:=(Zfx xs n0 n1 n2,Zei xs n0 n1 n2)
def ZfA(xs:List AV)(j3:Nat)(n4:Int)(l5:List Int)(n6:Int):List AFrame:=[{ fn:=113,N:=36,env:=[(6,AV.slc 136023 0 0 j3 none),(25,AV.list (Row.big (Sh.ints .i64) xs)),(26,AV.int .i64 n4),(27,AV.int .i64 n6)],todo:=.code (ACode.gh [] Zv4)::ZHZ,defs:=[],rnd:=none,ret:=false,res:=[ARes.tmp 2] }]
def Zel(xs:List AV)(j3:Nat)(n4:Int)(l5:List Int)(n6:Int):Zaa:=[(136023,{ base:=0,blks:=[Blk.row 3 1 (.ints .i64 l5)] })]
abbrev Zhh(xs:List AV)(j3:Nat)(n4:Int)(l5:List Int)(n6:Int):List AFrame×Zaa:=(ZfA xs j3 n4 l5 n6,Zel xs j3 n4 l5 n6)
theorem ZGy(A:Ar)(xs:List AV):Zad A tab B1 18 [] (ZL8 xs) []=
 some (tr [5] [],
  ZgX (xs) (A.int (A.lenA xs)) (0) (0)):=by kernel_rfl
theorem ZwM(A:Ar)(xs:List AV)(n0 n1 n2:Int):Zad A tab B1 38 [true,false] (Zfx xs n0 n1 n2) (Zei xs n0 n1 n2)=
 some (tr [1,0,3,5,0,1] [A.inR .i64 (A.add n2 1),!A.lt (A.add n1 (A.int (A.len (AV.toIs (A.nthA xs (A.nat n2)))))) 0,A.inR .i64 (A.add n1 (A.int (A.len (AV.toIs (A.nthA xs (A.nat n2)))))),Zab (Zab (A.le 0 n2) (Nat.blt (A.nat n2) (A.lenA xs))) true,A.lt n2 n0],
  ZgX (xs) (n0) (A.add n1 (A.int (A.len (AV.toIs (A.nthA xs (A.nat n2)))))) (A.add n2 1)):=by kernel_rfl
theorem ZCL(A:Ar)(xs:List AV)(n0 n1 n2:Int):Zad A tab B1 74 [false,false,true] (Zfx xs n0 n1 n2) (Zei xs n0 n1 n2)=
 some (tr [8,2,1,3,3,0,5,4,1] [Zab (A.le 0 (A.int 0)) (Zab (Zab (Nat.ble 0 (A.nat (A.int 0))) (Nat.ble (A.nat (A.int 0)) (A.len (A.rep (A.nat (A.sub n1 (A.sub 0 (A.int 0)))) 0)))) true),Zab (A.lt 0 (A.sub n1 (A.sub 0 (A.int 0)))) (A.le (A.sub n1 (A.sub 0 (A.int 0))) 4294967296),Zab (A.le 0 0) (Zab (Zab (Nat.ble 0 (A.nat 0)) (Nat.ble (A.nat 0) 0)) true),A.lt 0 (A.sub n1 (A.sub 0 (A.int 0))),A.inR .i64 (A.sub n1 (A.sub 0 (A.int 0))),A.inR .i64 (A.sub 0 (A.int 0)),!A.lt n1 0,!A.lt n2 n0],
  Zhh (xs) (A.nat (A.int 0)-0) (A.int (A.lenA xs)) (A.rep (A.nat (A.sub n1 (A.sub 0 (A.int 0)))) 0) (0)):=by kernel_rfl
theorem Zwn(A:Ar)(xs:List AV)(j3:Nat)(n4:Int)(l5:List Int)(n6:Int):Zad A tab B1 29 [true] (ZfA xs j3 n4 l5 n6) (Zel xs j3 n4 l5 n6)=
 some (tr [1,1,4,0,1] [A.inR .i64 (A.add n6 1),Nat.ble (j3+A.len (AV.toIs (A.nthA xs (A.nat n6)))) (A.len l5),Zab (Zab (A.le 0 n6) (Nat.blt (A.nat n6) (A.lenA xs))) true,A.lt n6 n4],
  Zhh (xs) (j3+A.len (AV.toIs (A.nthA xs (A.nat n6)))) (n4) (A.app (A.app (A.sub3 l5 0 j3) (AV.toIs (A.nthA xs (A.nat n6)))) (A.sub3 l5 (j3+A.len (AV.toIs (A.nthA xs (A.nat n6)))) (A.len l5))) (A.add n6 1)):=by kernel_rfl
theorem ZDv(A:Ar)(xs:List AV)(j3:Nat)(n4:Int)(l5:List Int)(n6:Int):Zaz A tab B1 14 [false] 113 (ZfA xs j3 n4 l5 n6) (Zel xs j3 n4 l5 n6)=
 some (tr [0,2,1] [Zab (Nat.beq j3 (A.len l5)) true,!A.lt n6 n4],
  AV.row 0 0,some { e:=3,sz:=1,r:=.ints .i64 l5 }):=by kernel_rfl
def ZDw(c:Int)(n:Int)(f:Int)(c2:Int)(n2:Int)(f2:Int)(ds:List Int)(es:List Int):AFrame:={ fn:=57,N:=31,env:=[(0,AV.agg (Row.gen [AV.int .i64 c,AV.int .i64 n,AV.int .i64 f,AV.list (.ints .i64 ds)])),(1,AV.agg (Row.gen [AV.int .i64 c2,AV.int .i64 n2,AV.int .i64 f2,AV.list (.ints .i64 es)]))],todo:=[.code a57.code],defs:=[],rnd:=none,ret:=false,res:=[ARes.tmp 4] }
def ZJB(c:Int)(n:Int)(f:Int)(c2:Int)(n2:Int)(f2:Int)(ds:List Int)(es:List Int):List AFrame:=[(ZDw c n f c2 n2 f2 ds es)]
theorem ZxS(c:Int)(n:Int)(f:Int)(c2:Int)(n2:Int)(f2:Int)(ds:List Int)(es:List Int):Zak tab 57 [AV.agg (Row.gen [AV.int .i64 c,AV.int .i64 n,AV.int .i64 f,AV.list (.ints .i64 ds)]),AV.agg (Row.gen [AV.int .i64 c2,AV.int .i64 n2,AV.int .i64 f2,AV.list (.ints .i64 es)])]=some (ZDw c n f c2 n2 f2 ds es):=rfl
theorem ZKj(A:Ar)(c n f c2 n2 f2:Int)(ds es:List Int):Zaz A tab B1 38 [true,true,true,true,true,true,true,true,true,true,true,true,true,true,true,true,true,true] 57 (ZJB c n f c2 n2 f2 ds es) []=
 some (tr [4,8,12,12,9] [decide (List.length ds≤1000000),A.eq f f2,A.eq n n2,A.eq c c2],
  AV.bool (decide (ds=es)),none):=by kernel_rfl
theorem ZKT(A:Ar)(c n f c2 n2 f2:Int)(ds es:List Int):Zaz A tab B1 38 [true,true,true,true,true,true,true,true,true,true,true,true,false,false,false,false,false,false] 57 (ZJB c n f c2 n2 f2 ds es) []=
 some (tr [13,12,12,9] [!A.eq f f2,A.eq n n2,A.eq c c2],
  AV.bool false,none):=by kernel_rfl
theorem ZMD(A:Ar)(c n f c2 n2 f2:Int)(ds es:List Int):Zaz A tab B1 38 [true,true,true,true,true,true,false,false,false,false,false,false,false,false,false,false,false,false] 57 (ZJB c n f c2 n2 f2 ds es) []=
 some (tr [26,12,9] [!A.eq n n2,A.eq c c2],
  AV.bool false,none):=by kernel_rfl
theorem ZMG(A:Ar)(c n f c2 n2 f2:Int)(ds es:List Int):Zaz A tab B1 38 [false,false,false,false,false,false,false,false,false,false,false,false,false,false,false,false,false,false] 57 (ZJB c n f c2 n2 f2 ds es) []=
 some (tr [39,9] [!A.eq c c2],
  AV.bool false,none):=by kernel_rfl
def ZGP(c:Int)(n:Int)(f:Int)(ds:List Int):AFrame:={ fn:=40,N:=8,env:=[(0,AV.agg (Row.gen [AV.int .i64 c,AV.int .i64 n,AV.int .i64 f,AV.list (.ints .i64 ds)]))],todo:=[.code a40.code],defs:=[],rnd:=none,ret:=false,res:=[ARes.cell 2 true 4] }
def ZOJ(c:Int)(n:Int)(f:Int)(ds:List Int):List AFrame:=[(ZGP c n f ds)]
theorem ZyG(c:Int)(n:Int)(f:Int)(ds:List Int):Zak tab 40 [AV.agg (Row.gen [AV.int .i64 c,AV.int .i64 n,AV.int .i64 f,AV.list (.ints .i64 ds)])]=some (ZGP c n f ds):=rfl
theorem ZM9(A:Ar)(c n f:Int)(ds:List Int):Zaz A tab B1 19 [] 40 (ZOJ c n f ds) []=
 some (tr [5,4] [decide (List.length ds≤4294967296)],
  AV.agg (Row.gen [.int .i64 c, .int .i64 n, .int .i64 f, .list (.ints .i64 ds)]),none):=by kernel_rfl
def Zvh(n:Int):AFrame:={ fn:=100,N:=5,env:=[(0,AV.int .i64 n)],todo:=[.code a100.code],defs:=[],rnd:=none,ret:=false,res:=[ARes.tmp 2] }
def ZKe(n:Int):List AFrame:=[(Zvh n)]
theorem Zs9(n:Int):Zak tab 100 [AV.int .i64 n]=some (Zvh n):=rfl
theorem ZCd(A:Ar)(n:Int):Zaz A tab B1 11 [] 100 (ZKe n) []=
 some (tr [5] [],
  AV.bool (decide (0≤n∧n≤63)),none):=by kernel_rfl
def ZCZ(n:Int):AFrame:={ fn:=93,N:=5,env:=[(0,AV.int .i64 n)],todo:=[.code a93.code],defs:=[],rnd:=none,ret:=false,res:=[ARes.tmp 2] }
def ZP3(n:Int):List AFrame:=[(ZCZ n)]
theorem ZAi(n:Int):Zak tab 93 [AV.int .i64 n]=some (ZCZ n):=rfl
theorem ZL6(A:Ar)(n:Int):Zaz A tab B1 11 [] 93 (ZP3 n) []=
 some (tr [5] [],
  AV.bool (decide (0≤n∧n≤255)),none):=by kernel_rfl
end Go.Proofs.Ytjhdnpmojhkbjaa
/- Contracts as a list. No condition. -/
namespace Go.Proofs.Ytjhdnpmojhkbjaa
def wr(n:Int):Int:=Go.IntKind.wrap .i64 n
theorem ZJp{n:Int}(h: -9223372036854775808≤n∧n≤9223372036854775807):wr n=n:=Zdg (k:=.i64) (by rw[ZAI];exact decide_eq_true h)
def ZbX(a b:Int):Bool:=decide ((4≤a∧a≤24)∧1≤b∧b≤4)
def Zat(a b:Int):Int:=if ZbX a b=true then 0 else 2
def Zbn(b n:Int):Int:=if 0≤n∧n≤b-1 then 0 else 6
def ZaQ(b n:Int):Int:=if 0≤n∧n≤wr (b-1)then 0 else 6
theorem Zpk(a b:Int):ZaH Try.prog 18 [.agg (.gen [.int .i64 a, .int .i64 b])] (.int .i64 (Zat a b)) none:=
 start (ZBp a b) fun C hC=>by
  by_cases h1:4≤a∧a≤24
  ·by_cases h2:1≤b∧b≤4
   ·exact fin hC Zcy (ZKk std a b) (by simp[h1,h2]) (by simp[Zat,ZbX,h1,h2]) rfl
   ·exact fin hC Zcy (ZNt std a b) (by simp[h1];omega) (by simp[Zat,ZbX,h2]) rfl
  ·exact fin hC Zcy (ZMc std a b) (by simp;omega) (by simp[Zat,ZbX,h1]) rfl
theorem Zp7(a b:Int):ZaH Try.prog 63 [.agg (.gen [.int .i64 a, .int .i64 b])] (.int .i64 (Zat a b)) none:=
 start (Zx7 a b) fun C hC=>by
  by_cases h1:4≤a∧a≤24
  ·exact fin hC Zcy (ZMa std a b) (by simp[h1]) (by by_cases h2:1≤b∧b≤4<;>simp[Zat,ZbX,h1,h2,Zal]) rfl
  ·exact fin hC Zcy (ZLk std a b) (by simp;omega) (by simp[Zat,ZbX,h1]) rfl
theorem Zqn(a b n:Int)(h: -1000000≤b∧b≤1000000):ZaH Try.prog 19 [.agg (.gen [.int .i64 a, .int .i64 b]), .int .i64 n] (.int .i64 (Zbn b n)) none:=
 start (Zx2 a b n) fun C hC=>by
  by_cases h1:0≤n∧n≤b-1
  ·exact fin hC Zcy (ZLv std a b n) (by simp[h1.1];omega) (by rw[Zbn,if_pos h1]) rfl
  ·exact fin hC Zcy (ZKi std a b n) (by simp;exact⟨decide_eq_false h1,by omega,by omega⟩) (by rw[Zbn,if_neg h1]) rfl
theorem ZpU(a b n:Int):ZaH Try.prog 131 [.agg (.gen [.int .i64 a, .int .i64 b]), .int .i64 n] (.int .i64 (ZaQ b n)) none:=
 start (Zt4 a b n) fun C hC=>fin hC Zcy (ZJl std a b n) (by simp) (by
  show AV.int .i64 (Zal (decide (0≤n∧n≤wr (b-1))) 6)=_
  by_cases h:0≤n∧n≤wr (b-1)<;>simp[ZaQ,Zal,h]) rfl
theorem Zp9(xs:List Int)(h:xs.length≤1000000):ZaH Try.prog 94 [.list (.ints .i64 xs)] (.int .i64 (ZaG xs)) none:=
 start (Zyw xs) fun C hC=>fin hC Zcy (ZMH std xs) (by simp[h]) rfl rfl
theorem Zpo(x y:AV)(a b:List Int)(hx:x.toIs=a)(hy:y.toIs=b)(h:0<a.length+b.length∧a.length+b.length≤1000000):ZaH Try.prog 113 [.list (.big (.ints .i64) [x,y])] (.row 0 0) (some ⟨3,1, .ints .i64 (a++b)⟩):=
 start (Zuh [x,y]) fun C hC=>by
  refine go hC Zcy (ZGy std [x,y]) (by simp) ?_
  refine go hC Zcy (ZwM std [x,y] _ _ _) (by simp[hx];omega) ?_
  refine go hC Zcy (ZwM std [x,y] _ _ _) (by simp[hx,hy];omega) ?_
  refine go hC Zcy (ZCL std [x,y] _ _ _) (by simp[hx,hy];omega) ?_
  refine go hC Zcy (Zwn std [x,y] _ _ _ _) (by simp[hx,hy];omega) ?_
  refine go hC Zcy (Zwn std [x,y] _ _ _ _) (by simp[hx,hy];omega) ?_
  refine fin hC Zcy (ZDv std [x,y] _ _ _ _) (by simp[hx,hy];omega) rfl ?_
  simp[hx,hy]
  omega
theorem ZhY(a b:List Int)(h:0<a.length+b.length∧a.length+b.length≤1000000):ZaH Try.prog 113 [.list (.gen [.list (.ints .i64 a), .list (.ints .i64 b)])] (.list (.ints .i64 (a++b))) Zn2:=by
 have:=Zky (Zpo (.list (.ints .i64 a)) (.list (.ints .i64 b)) a b rfl rfl h) rfl rfl
 exact ZhF (xs:=[]) (ys:=[]) this rfl
theorem Zl8(c n f c2 n2 f2:Int)(ds es:List Int)(h:ds.length≤1000000):ZaH Try.prog 57 [.agg (.gen [.int .i64 c, .int .i64 n, .int .i64 f, .list (.ints .i64 ds)]), .agg (.gen [.int .i64 c2, .int .i64 n2, .int .i64 f2, .list (.ints .i64 es)])]
 (.bool (decide (c=c2∧n=n2∧f=f2∧ds=es))) none:=
 start (ZxS c n f c2 n2 f2 ds es) fun C hC=>by
  by_cases h1:c=c2
  ·by_cases h2:n=n2
   ·by_cases h3:f=f2
    ·exact fin hC Zcy (ZKj std c n f c2 n2 f2 ds es) (by simp[h1,h2,h3,h]) (by simp[h1,h2,h3]) rfl
    ·exact fin hC Zcy (ZKT std c n f c2 n2 f2 ds es) (by simp[h1,h2,h3]) (by simp[h3]) rfl
   ·exact fin hC Zcy (ZMD std c n f c2 n2 f2 ds es) (by simp[h1,h2]) (by simp[h2]) rfl
  ·exact fin hC Zcy (ZMG std c n f c2 n2 f2 ds es) (by simp[h1]) (by simp[h1]) rfl
theorem Zrt(c n f:Int)(ds:List Int)(h:ds.length≤4294967296):ZaH Try.prog 40 [.agg (.gen [.int .i64 c, .int .i64 n, .int .i64 f, .list (.ints .i64 ds)])] (.agg (.gen [.int .i64 c, .int .i64 n, .int .i64 f, .list (.ints .i64 ds)])) none:=
 start (ZyG c n f ds) fun C hC=>fin hC Zcy (ZM9 std c n f ds) (by simp[h]) rfl rfl
theorem ZnB(n:Int):ZaH Try.prog 100 [.int .i64 n] (.bool (decide (0≤n∧n≤63))) none:=
 start (Zs9 n) fun C hC=>fin hC Zcy (ZCd std n) (by simp) rfl rfl
theorem ZqY(n:Int):ZaH Try.prog 93 [.int .i64 n] (.bool (Zfi n)) none:=
 start (ZAi n) fun C hC=>fin hC Zcy (ZL6 std n) (by simp) rfl rfl
def k100:Ctr:=⟨100,0,fun _ a=>match a with |[.int .i64 n]=>some (true, .bool (decide (0≤n∧n≤63)),none) |_=>none⟩
theorem ZAw:k100.OK Try.prog:=fun pa args r fr h=>by
 simp only[k100]at h
 split at h
 ·cases h
  exact ZnB _
 ·cases h
def k93:Ctr:=⟨93,0,fun _ a=>match a with |[.int .i64 n]=>some (true, .bool (Zfi n),none) |_=>none⟩
theorem ZES:k93.OK Try.prog:=fun pa args r fr h=>by
 simp only[k93]at h
 split at h
 ·cases h
  exact ZqY _
 ·cases h
def k18:Ctr:=⟨18,0,fun _ a=>match a with |[.agg (.gen [.int .i64 a, .int .i64 b])]=>some (true, .int .i64 (Zat a b),none) |_=>none⟩
theorem ZFY:k18.OK Try.prog:=fun pa args r fr h=>by
 simp only[k18]at h
 split at h
 ·cases h
  exact Zpk _ _
 ·cases h
def k63:Ctr:=⟨63,0,fun _ a=>match a with |[.agg (.gen [.int .i64 a, .int .i64 b])]=>some (true, .int .i64 (Zat a b),none) |_=>none⟩
theorem ZFi:k63.OK Try.prog:=fun pa args r fr h=>by
 simp only[k63]at h
 split at h
 ·cases h
  exact Zp7 _ _
 ·cases h
def k19:Ctr:=⟨19,0,fun _ a=>match a with |[.agg (.gen [.int .i64 a, .int .i64 b]), .int .i64 n]=>some (decide (-1000000≤b∧b≤1000000), .int .i64 (Zbn b n),none) |_=>none⟩
theorem ZIz:k19.OK Try.prog:=fun pa args r fr h=>by
 simp only[k19]at h
 split at h
 ·simp only[Option.some.injEq,Prod.mk.injEq,decide_eq_true_eq]at h
  obtain⟨h0,rfl,rfl⟩:=h
  exact Zqn _ _ _ h0
 ·cases h
def k131:Ctr:=⟨131,0,fun _ a=>match a with |[.agg (.gen [.int .i64 a, .int .i64 b]), .int .i64 n]=>some (true, .int .i64 (ZaQ b n),none) |_=>none⟩
theorem ZAZ:k131.OK Try.prog:=fun pa args r fr h=>by
 simp only[k131]at h
 split at h
 ·cases h
  exact ZpU _ _ _
 ·cases h
def k94:Ctr:=⟨94,0,fun _ a=>match a with |[.list (.ints .i64 xs)]=>some (decide (xs.length≤1000000), .int .i64 (ZaG xs),none) |_=>none⟩
theorem ZCU:k94.OK Try.prog:=fun pa args r fr h=>by
 simp only[k94]at h
 split at h
 ·simp only[Option.some.injEq,Prod.mk.injEq,decide_eq_true_eq]at h
  obtain⟨h0,rfl,rfl⟩:=h
  exact Zp9 _ h0
 ·cases h
def k113:Ctr:=⟨113,0,fun _ a=>match a with |[.list (.gen [.list (.ints .i64 a), .list (.ints .i64 b)])]=>some (decide (0<a.length+b.length∧a.length+b.length≤1000000), .list (.ints .i64 (a++b)),Zn2) |_=>none⟩
theorem Zx3:k113.OK Try.prog:=fun pa args r fr h=>by
 simp only[k113]at h
 split at h
 ·simp only[Option.some.injEq,Prod.mk.injEq,decide_eq_true_eq]at h
  obtain⟨h0,rfl,rfl⟩:=h
  exact ZhY _ _ h0
 ·cases h
def k57:Ctr:=⟨57,0,fun _ a=>match a with |[.agg (.gen [.int .i64 c, .int .i64 n, .int .i64 f, .list (.ints .i64 ds)]), .agg (.gen [.int .i64 c2, .int .i64 n2, .int .i64 f2, .list (.ints .i64 es)])]=>some (decide (ds.length≤1000000), .bool (decide (c=c2∧n=n2∧f=f2∧ds=es)),none) |_=>none⟩
theorem ZEH:k57.OK Try.prog:=fun pa args r fr h=>by
 simp only[k57]at h
 split at h
 ·simp only[Option.some.injEq,Prod.mk.injEq,decide_eq_true_eq]at h
  obtain⟨h0,rfl,rfl⟩:=h
  exact Zl8 _ _ _ _ _ _ _ _ h0
 ·cases h
def k40:Ctr:=⟨40,0,fun _ a=>match a with |[.agg (.gen [.int .i64 c, .int .i64 n, .int .i64 f, .list (.ints .i64 ds)])]=>some (decide (ds.length≤4294967296), .agg (.gen [.int .i64 c, .int .i64 n, .int .i64 f, .list (.ints .i64 ds)]),none) |_=>none⟩
theorem ZEe:k40.OK Try.prog:=fun pa args r fr h=>by
 simp only[k40]at h
 split at h
 ·simp only[Option.some.injEq,Prod.mk.injEq,decide_eq_true_eq]at h
  obtain⟨h0,rfl,rfl⟩:=h
  exact Zrt _ _ _ _ h0
 ·cases h
def B2:List Ctr:=[k100,k93,k18,k63,k19,k131,k94,k113,k57,k40]++B1
theorem Zh2:Zap Try.prog B2:=⟨ZAw,⟨ZES,⟨ZFY,⟨ZFi,⟨ZIz,⟨ZAZ,⟨ZCU,⟨Zx3,⟨ZEH,⟨ZEe,Zcy⟩⟩⟩⟩⟩⟩⟩⟩⟩⟩
end Go.Proofs.Ytjhdnpmojhkbjaa
/- Paths of functions, printed by the explorer (Gx). No condition. -/
namespace Go.Proofs.Ytjhdnpmojhkbjaa
set_option maxRecDepth 100000
set_option linter.unusedVariables false
def ZF3(a:Int)(b:Int)(c:Int)(n:Int)(f:Int)(ds:List Int):AFrame:={ fn:=64,N:=40,env:=[(0,AV.agg (Row.gen [AV.int .i64 a,AV.int .i64 b])),(1,AV.agg (Row.gen [AV.int .i64 c,AV.int .i64 n,AV.int .i64 f,AV.list (.ints .i64 ds)]))],todo:=[.code a64.code],defs:=[],rnd:=none,ret:=false,res:=[ARes.tmp 4] }
def ZzS(a:Int)(b:Int)(c:Int)(n:Int)(f:Int)(ds:List Int):List AFrame:=[(ZF3 a b c n f ds)]
theorem ZAX(a:Int)(b:Int)(c:Int)(n:Int)(f:Int)(ds:List Int):Zak tab 64 [AV.agg (Row.gen [AV.int .i64 a,AV.int .i64 b]),AV.agg (Row.gen [AV.int .i64 c,AV.int .i64 n,AV.int .i64 f,AV.list (.ints .i64 ds)])]=some (ZF3 a b c n f ds):=rfl
theorem ZLn(A:Ar)(a b c n f:Int)(ds:List Int):Zaz A tab B2 27 [true] 64 (ZzS a b c n f ds) []=
 some (tr [3,3,6] [A.not (A.eq (Zbn b c) 0),decide (-1000000≤b∧b≤1000000)],
  AV.int .i64 (Zbn b c),none):=by kernel_rfl
theorem ZKl(A:Ar)(a b c n f:Int)(ds:List Int):Zaz A tab B2 51 [false,true,true,true,true,true,true,true,true,true,true,true] 64 (ZzS a b c n f ds) []=
 some (tr [25,5,3,6] [A.not (decide (0≤n∧n≤63)),!A.not (A.eq (Zbn b c) 0),decide (-1000000≤b∧b≤1000000)],
  AV.int .i64 2,none):=by kernel_rfl
theorem ZNE(A:Ar)(a b c n f:Int)(ds:List Int):Zaz A tab B2 51 [false,false,false,false,false,false,false,false,false,true,true,true,false,true,false,true] 64 (ZzS a b c n f ds) []=
 some (tr [2,10,6,8,5,3,6] [A.not (A.eq f 255),A.not (decide (0≤f∧f≤A.sub a 1)),A.inR .i64 (A.sub a 1),!A.not (decide (0≤n∧n≤63)),!A.not (A.eq (Zbn b c) 0),decide (-1000000≤b∧b≤1000000)],
  AV.int .i64 2,none):=by kernel_rfl
theorem ZLl(A:Ar)(a b c n f:Int)(ds:List Int):Zaz A tab B2 63 [false,false,false,false,false,false,false,false,false,true,true,true,false,true,false,false,true] 64 (ZzS a b c n f ds) []=
 some (tr [2,6,10,6,8,5,3,6] [A.not (A.eq (A.int (A.len ds)) a),!A.not (A.eq f 255),A.not (decide (0≤f∧f≤A.sub a 1)),A.inR .i64 (A.sub a 1),!A.not (decide (0≤n∧n≤63)),!A.not (A.eq (Zbn b c) 0),decide (-1000000≤b∧b≤1000000)],
  AV.int .i64 10,none):=by kernel_rfl
theorem ZMZ(A:Ar)(a b c n f:Int)(ds:List Int):Zaz A tab B2 67 [false,false,false,false,false,false,false,false,false,true,true,true,false,true,false,false,false] 64 (ZzS a b c n f ds) []=
 some (tr [2,2,6,10,6,8,5,3,6] [decide (List.length ds≤1000000),!A.not (A.eq (A.int (A.len ds)) a),!A.not (A.eq f 255),A.not (decide (0≤f∧f≤A.sub a 1)),A.inR .i64 (A.sub a 1),!A.not (decide (0≤n∧n≤63)),!A.not (A.eq (Zbn b c) 0),decide (-1000000≤b∧b≤1000000)],
  AV.int .i64 (ZaG ds),none):=by kernel_rfl
theorem ZMl(A:Ar)(a b c n f:Int)(ds:List Int):Zaz A tab B2 63 [false,false,false,false,false,false,false,false,false,false,false,false,false,false,false,false,true] 64 (ZzS a b c n f ds) []=
 some (tr [2,17,6,8,5,3,6] [A.not (A.eq (A.int (A.len ds)) a),!A.not (decide (0≤f∧f≤A.sub a 1)),A.inR .i64 (A.sub a 1),!A.not (decide (0≤n∧n≤63)),!A.not (A.eq (Zbn b c) 0),decide (-1000000≤b∧b≤1000000)],
  AV.int .i64 10,none):=by kernel_rfl
theorem ZM2(A:Ar)(a b c n f:Int)(ds:List Int):Zaz A tab B2 67 [false,false,false,false,false,false,false,false,false,false,false,false,false,false,false,false,false] 64 (ZzS a b c n f ds) []=
 some (tr [2,2,17,6,8,5,3,6] [decide (List.length ds≤1000000),!A.not (A.eq (A.int (A.len ds)) a),!A.not (decide (0≤f∧f≤A.sub a 1)),A.inR .i64 (A.sub a 1),!A.not (decide (0≤n∧n≤63)),!A.not (A.eq (Zbn b c) 0),decide (-1000000≤b∧b≤1000000)],
  AV.int .i64 (ZaG ds),none):=by kernel_rfl
def Zws(a:Int)(b:Int)(c:Int)(n:Int)(f:Int)(ds:List Int):AFrame:={ fn:=110,N:=40,env:=[(0,AV.agg (Row.gen [AV.int .i64 a,AV.int .i64 b])),(1,AV.agg (Row.gen [AV.int .i64 c,AV.int .i64 n,AV.int .i64 f,AV.list (.ints .i64 ds)]))],todo:=[.code a110.code],defs:=[],rnd:=none,ret:=false,res:=[ARes.tmp 4] }
def ZyS(a:Int)(b:Int)(c:Int)(n:Int)(f:Int)(ds:List Int):List AFrame:=[(Zws a b c n f ds)]
theorem ZuI(a:Int)(b:Int)(c:Int)(n:Int)(f:Int)(ds:List Int):Zak tab 110 [AV.agg (Row.gen [AV.int .i64 a,AV.int .i64 b]),AV.agg (Row.gen [AV.int .i64 c,AV.int .i64 n,AV.int .i64 f,AV.list (.ints .i64 ds)])]=some (Zws a b c n f ds):=rfl
theorem ZIB(A:Ar)(a b c n f:Int)(ds:List Int):Zaz A tab B2 10 [true,true] 110 (ZyS a b c n f ds) []=
 some (tr [2,0,0,16,8,11] [decide (List.length [ZaQ b c,0,Zal (A.eq (A.int (A.len ds)) a) 10,ZaG ds]≤1000000),List.all [AV.int .i64 (ZaQ b c),AV.int .i64 0,AV.int .i64 (Zal (A.eq (A.int (A.len ds)) a) 10),AV.int .i64 (ZaG ds)] fun x=>AV.bx x&&Nat.beq (Zac A x) 1,decide (List.length ds≤1000000),decide (0≤f∧f≤Go.IntKind.wrap .i64 (A.sub a 1)),decide (0≤n∧n≤63)],
  AV.int .i64 (Zau [ZaQ b c,0,Zal (A.eq (A.int (A.len ds)) a) 10,ZaG ds]),none):=by kernel_rfl
theorem ZFj(A:Ar)(a b c n f:Int)(ds:List Int):Zaz A tab B2 10 [true,false] 110 (ZyS a b c n f ds) []=
 some (tr [2,0,0,16,8,11] [decide (List.length [ZaQ b c,Zal (A.eq f 255) 2,Zal (A.eq (A.int (A.len ds)) a) 10,ZaG ds]≤1000000),List.all [AV.int .i64 (ZaQ b c),AV.int .i64 (Zal (A.eq f 255) 2),AV.int .i64 (Zal (A.eq (A.int (A.len ds)) a) 10),AV.int .i64 (ZaG ds)] fun x=>AV.bx x&&Nat.beq (Zac A x) 1,decide (List.length ds≤1000000),!decide (0≤f∧f≤Go.IntKind.wrap .i64 (A.sub a 1)),decide (0≤n∧n≤63)],
  AV.int .i64 (Zau [ZaQ b c,Zal (A.eq f 255) 2,Zal (A.eq (A.int (A.len ds)) a) 10,ZaG ds]),none):=by kernel_rfl
theorem ZC2(A:Ar)(a b c n f:Int)(ds:List Int):Zaz A tab B2 10 [false] 110 (ZyS a b c n f ds) []=
 some (tr [2,0,0,24,11] [decide (List.length [ZaQ b c,2,Zal (A.eq (A.int (A.len ds)) a) 10,ZaG ds]≤1000000),List.all [AV.int .i64 (ZaQ b c),AV.int .i64 2,AV.int .i64 (Zal (A.eq (A.int (A.len ds)) a) 10),AV.int .i64 (ZaG ds)] fun x=>AV.bx x&&Nat.beq (Zac A x) 1,decide (List.length ds≤1000000),!decide (0≤n∧n≤63)],
  AV.int .i64 (Zau [ZaQ b c,2,Zal (A.eq (A.int (A.len ds)) a) 10,ZaG ds]),none):=by kernel_rfl
end Go.Proofs.Ytjhdnpmojhkbjaa
/- Contracts as a list. No condition. -/
namespace Go.Proofs.Ytjhdnpmojhkbjaa
def okF(hi n f:Int):Bool:=decide ((0≤n∧n≤63)∧(0≤f∧f≤hi∨f=255))
def ZeB(a b c n f:Int)(ds:List Int):Int:=Zau [ZaQ b c,Zal (okF (wr (a-1)) n f) 2,Zal (decide ((ds.length:Int)=a)) 10,ZaG ds]
def ZdP(a b c n f:Int)(ds:List Int):Int:=Zau [Zbn b c,Zal (okF (a-1) n f) 2,Zal (decide ((ds.length:Int)=a)) 10,ZaG ds]
theorem ZhR{a b:Int}(h:ZbX a b=true)(c n f:Int)(ds:List Int):ZeB a b c n f ds=ZdP a b c n f ds:=by
 simp only[ZbX,decide_eq_true_eq]at h
 unfold ZeB ZdP ZaQ Zbn
 rw[ZJp (n:=b-1) (by omega),ZJp (n:=a-1) (by omega)]
theorem ZFm(hi n f:Int)(h:¬(0≤n∧n≤63)):okF hi n f=false:=by simp[okF];omega
theorem ZGq(hi n f:Int)(h:0≤n∧n≤63)(h2:0≤f∧f≤hi):okF hi n f=true:=by simp[okF];omega
theorem ZHY(hi n f:Int)(h:0≤n∧n≤63)(h2:¬(0≤f∧f≤hi)):okF hi n f=decide (f=255):=by
 by_cases h3:f=255
 ·simp[okF,h3,h]
 ·simp[okF,h3];omega
theorem Znm(a b c n f:Int)(ds:List Int)(h:ds.length≤1000000):ZaH Try.prog 110 [.agg (.gen [.int .i64 a, .int .i64 b]), .agg (.gen [.int .i64 c, .int .i64 n, .int .i64 f, .list (.ints .i64 ds)])] (.int .i64 (ZeB a b c n f ds)) none:=
 start (ZuI a b c n f ds) fun C hC=>by
  by_cases h1:0≤n∧n≤63
  ·by_cases h2:0≤f∧f≤wr (a-1)
   ·have h2':decide (0≤f∧f≤Go.IntKind.wrap .i64 (std.sub a 1))=true:=decide_eq_true h2
    exact fin hC Zh2 (ZIB std a b c n f ds) (by simp only[h2'];simp[h1,h,AV.bx,Zac]) (by rw[ZeB,ZGq _ _ _ h1 h2];rfl) rfl
   ·have h2':decide (0≤f∧f≤Go.IntKind.wrap .i64 (std.sub a 1))=false:=decide_eq_false h2
    exact fin hC Zh2 (ZFj std a b c n f ds) (by simp only[h2'];simp[h1,h,AV.bx,Zac]) (by rw[ZeB,ZHY _ _ _ h1 h2];rfl) rfl
  ·have h1':decide (0≤n∧n≤63)=false:=decide_eq_false h1
   exact fin hC Zh2 (ZC2 std a b c n f ds) (by simp only[h1'];simp[h,AV.bx,Zac]) (by rw[ZeB,ZFm _ _ _ h1];rfl) rfl
theorem ZqX(x y z u:Int):Zau [x,y,z,u]=if x=0 then(if y=0 then(if z=0 then u else z)else y)else x:=by
 simp only[Zau]
 by_cases hu:u=0<;>simp[hu]
theorem ZoX(a b c n f:Int)(ds:List Int)(h:(-1000000≤a∧a≤1000000)∧(-1000000≤b∧b≤1000000)):ZaH Try.prog 64 [.agg (.gen [.int .i64 a, .int .i64 b]), .agg (.gen [.int .i64 c, .int .i64 n, .int .i64 f, .list (.ints .i64 ds)])] (.int .i64 (ZdP a b c n f ds)) none:=
 start (ZAX a b c n f ds) fun C hC=>by
  obtain⟨ha,hb⟩:=h
  rw[ZdP,ZqX]
  by_cases h0:Zbn b c=0
  ·rw[if_pos h0]
   by_cases h1:0≤n∧n≤63
   ·by_cases h2:0≤f∧f≤a-1
    ·rw[ZGq _ _ _ h1 h2,ZdN,if_pos rfl]
     by_cases h3:(ds.length:Int)=a
     ·exact fin hC Zh2 (ZM2 std a b c n f ds) (by simp[h0,h1,h2.1,h2.2,h3];omega) (by simp[h3]) rfl
     ·exact fin hC Zh2 (ZMl std a b c n f ds) (by simp[h0,h1,h2.1,h2.2,h3];omega) (by simp[h3]) rfl
    ·have h2':decide (0≤f∧f≤std.sub a 1)=false:=decide_eq_false h2
     rw[ZHY _ _ _ h1 h2]
     by_cases h4:f=255
     ·rw[decide_eq_true h4,ZdN,if_pos rfl]
      by_cases h3:(ds.length:Int)=a
      ·exact fin hC Zh2 (ZMZ std a b c n f ds) (by simp only[h2'];simp[h0,h1,h3,h4];omega) (by simp[h3]) rfl
      ·exact fin hC Zh2 (ZLl std a b c n f ds) (by simp only[h2'];simp[h0,h1,h3,h4];omega) (by simp[h3]) rfl
     ·rw[decide_eq_false h4]
      exact fin hC Zh2 (ZNE std a b c n f ds) (by simp only[h2'];simp[h0,h1,h4];omega) (by simp) rfl
   ·have h1':decide (0≤n∧n≤63)=false:=decide_eq_false h1
    rw[ZFm _ _ _ h1]
    exact fin hC Zh2 (ZKl std a b c n f ds) (by simp only[h1'];simp[h0];omega) (by simp) rfl
  ·rw[if_neg h0]
   exact fin hC Zh2 (ZLn std a b c n f ds) (by simp[h0];omega) rfl rfl
def k110:Ctr:=⟨110,0,fun _ a=>match a with |[.agg (.gen [.int .i64 a, .int .i64 b]), .agg (.gen [.int .i64 c, .int .i64 n, .int .i64 f, .list (.ints .i64 ds)])]=>some (decide (ds.length≤1000000), .int .i64 (ZeB a b c n f ds),none) |_=>none⟩
theorem Zxx:k110.OK Try.prog:=fun pa args r fr h=>by
 simp only[k110]at h
 split at h
 ·simp only[Option.some.injEq,Prod.mk.injEq,decide_eq_true_eq]at h
  obtain⟨h0,rfl,rfl⟩:=h
  exact Znm _ _ _ _ _ _ h0
 ·cases h
def k64:Ctr:=⟨64,0,fun _ a=>match a with |[.agg (.gen [.int .i64 a, .int .i64 b]), .agg (.gen [.int .i64 c, .int .i64 n, .int .i64 f, .list (.ints .i64 ds)])]=>some (decide ((-1000000≤a∧a≤1000000)∧(-1000000≤b∧b≤1000000)), .int .i64 (ZdP a b c n f ds),none) |_=>none⟩
theorem ZIj:k64.OK Try.prog:=fun pa args r fr h=>by
 simp only[k64]at h
 split at h
 ·simp only[Option.some.injEq,Prod.mk.injEq,decide_eq_true_eq]at h
  obtain⟨h0,rfl,rfl⟩:=h
  exact ZoX _ _ _ _ _ _ h0
 ·cases h
def B3:List Ctr:=[k110,k64]++B2
theorem ZLc:Zap Try.prog B3:=⟨Zxx,⟨ZIj,Zh2⟩⟩
end Go.Proofs.Ytjhdnpmojhkbjaa
