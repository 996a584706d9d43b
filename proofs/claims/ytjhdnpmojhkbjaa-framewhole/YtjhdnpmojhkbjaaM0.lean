/- Calls at given values. Printed by facts.py. -/
import Derived.Test.YtjhdnpmojhkbjaaA1
import Derived.KernelRfl
namespace Go.Proofs.Ytjhdnpmojhkbjaa
set_option maxRecDepth 1000000
def iN(n:Int):AV:=.int .i64 n
def Fact.ok(q:Fact):Prop:=ZaK Try.prog q.f q.args q.r q.fr
theorem fct{q:Fact}(l:List Fact)(h:ZjM Try.prog l)(hk:ZHm ZoA tab (ZAF l) 100000 q.f q.args=some (true,q.r,q.fr)):q.ok:=ZAl follows Zja h hk
def q0:Fact:=⟨86,[(.bool true),(iN 10)],(iN 0),none⟩
theorem Zo7:q0.ok:=fct [] trivial (by kernel_rfl)
def q1:Fact:=⟨86,[(.bool true),(iN 8)],(iN 0),none⟩
theorem Zn4:q1.ok:=fct [] trivial (by kernel_rfl)
def q2:Fact:=⟨87,[(iN 1),(iN 0),(iN 255)],(.bool true),none⟩
theorem ZJH:q2.ok:=fct [] trivial (by kernel_rfl)
def q3:Fact:=⟨93,[(iN 1)],(.bool true),none⟩
theorem ZER:q3.ok:=fct [q2] ⟨ZJH,trivial⟩ (by kernel_rfl)
def q4:Fact:=⟨86,[(.bool true),(iN 2)],(iN 0),none⟩
theorem ZfG:q4.ok:=fct [] trivial (by kernel_rfl)
def q5:Fact:=⟨128,[(iN 1)],(iN 0),none⟩
theorem ZsH:q5.ok:=fct [q3,q4] ⟨ZER,ZfG,trivial⟩ (by kernel_rfl)
def q6:Fact:=⟨87,[(iN 5),(iN 0),(iN 255)],(.bool true),none⟩
theorem ZKz:q6.ok:=fct [] trivial (by kernel_rfl)
def q7:Fact:=⟨93,[(iN 5)],(.bool true),none⟩
theorem ZLh:q7.ok:=fct [q6] ⟨ZKz,trivial⟩ (by kernel_rfl)
def q8:Fact:=⟨128,[(iN 5)],(iN 0),none⟩
theorem ZJy:q8.ok:=fct [q7,q4] ⟨ZLh,ZfG,trivial⟩ (by kernel_rfl)
def q9:Fact:=⟨87,[(iN 0),(iN 0),(iN 255)],(.bool true),none⟩
theorem ZJp:q9.ok:=fct [] trivial (by kernel_rfl)
def q10:Fact:=⟨93,[(iN 0)],(.bool true),none⟩
theorem ZvU:q10.ok:=fct [q9] ⟨ZJp,trivial⟩ (by kernel_rfl)
def q11:Fact:=⟨128,[(iN 0)],(iN 0),none⟩
theorem ZqI:q11.ok:=fct [q10,q4] ⟨ZvU,ZfG,trivial⟩ (by kernel_rfl)
def q12:Fact:=⟨87,[(iN 7),(iN 0),(iN 255)],(.bool true),none⟩
theorem ZCu:q12.ok:=fct [] trivial (by kernel_rfl)
def q13:Fact:=⟨93,[(iN 7)],(.bool true),none⟩
theorem ZDt:q13.ok:=fct [q12] ⟨ZCu,trivial⟩ (by kernel_rfl)
def q14:Fact:=⟨128,[(iN 7)],(iN 0),none⟩
theorem ZEo:q14.ok:=fct [q13,q4] ⟨ZDt,ZfG,trivial⟩ (by kernel_rfl)
def q15:Fact:=⟨87,[(iN 255),(iN 0),(iN 255)],(.bool true),none⟩
theorem ZGF:q15.ok:=fct [] trivial (by kernel_rfl)
def q16:Fact:=⟨93,[(iN 255)],(.bool true),none⟩
theorem ZB1:q16.ok:=fct [q15] ⟨ZGF,trivial⟩ (by kernel_rfl)
def q17:Fact:=⟨128,[(iN 255)],(iN 0),none⟩
theorem ZtY:q17.ok:=fct [q16,q4] ⟨ZB1,ZfG,trivial⟩ (by kernel_rfl)
def q18:Fact:=⟨127,[(.list (.ints .i64 [1,5,0,7,0,0,255])),(.fn 128 [])],(iN 0),none⟩
theorem ZBq:q18.ok:=fct [q5,q8,q11,q14,q17] ⟨ZsH,ZJy,ZqI,ZEo,ZtY,trivial⟩ (by kernel_rfl)
def q19:Fact:=⟨94,[(.list (.ints .i64 [1,5,0,7,0,0,255]))],(iN 0),none⟩
theorem ZFV:q19.ok:=fct [q18] ⟨ZBq,trivial⟩ (by kernel_rfl)
def q20:Fact:=⟨84,[(.list (.ints .i64 [0,0,0]))],(iN 0),none⟩
theorem ZlA:q20.ok:=fct [] trivial (by kernel_rfl)
def q21:Fact:=⟨109,[(.list (.ints .i64 [1,5,0,7,0,0,255]))],(.agg (.ints .i64 [18,76])),none⟩
theorem ZDZ:q21.ok:=fct [] trivial (by kernel_rfl)
def q22:Fact:=⟨60,[(.list (.ints .i64 [1,5,0,7,0,0,255]))],(.tup [(iN 4684),(iN 0)]),none⟩
theorem ZFh:q22.ok:=fct [q0,q1,q19,q20,q21] ⟨Zo7,Zn4,ZFV,ZlA,ZDZ,trivial⟩ (by kernel_rfl)
def q23:Fact:=⟨75,[],(.agg (.gen [(iN 4),(iN 2)])),none⟩
theorem ZGy:q23.ok:=fct [] trivial (by kernel_rfl)
def q24:Fact:=⟨76,[],(.list (.gen [(.agg (.gen [(iN 9),(iN 0),(.list (.ints .i64 [1,2]))])),(.agg (.gen [(iN 9),(iN 1),(.list (.ints .i64 [3]))]))])),none⟩
theorem ZCv:q24.ok:=fct [] trivial (by kernel_rfl)
def q25:Fact:=⟨87,[(iN 4),(iN 4),(iN 24)],(.bool true),none⟩
theorem ZCV:q25.ok:=fct [] trivial (by kernel_rfl)
def q26:Fact:=⟨87,[(iN 2),(iN 1),(iN 4)],(.bool true),none⟩
theorem ZCt:q26.ok:=fct [] trivial (by kernel_rfl)
def q27:Fact:=⟨63,[(.agg (.gen [(iN 4),(iN 2)]))],(iN 0),none⟩
theorem ZEb:q27.ok:=fct [q25,q26,q4] ⟨ZCV,ZCt,ZfG,trivial⟩ (by kernel_rfl)
def q28:Fact:=⟨95,[(.agg (.gen [(iN 4),(iN 2)]))],(.tup [(.agg (.gen [(iN 4),(iN 2)])),(iN 0)]),none⟩
theorem ZCn:q28.ok:=fct [q27] ⟨ZEb,trivial⟩ (by kernel_rfl)
def q29:Fact:=⟨87,[(iN 0),(iN 0),(iN 1)],(.bool true),none⟩
theorem ZA7:q29.ok:=fct [] trivial (by kernel_rfl)
def q30:Fact:=⟨86,[(.bool true),(iN 6)],(iN 0),none⟩
theorem ZEP:q30.ok:=fct [] trivial (by kernel_rfl)
def q31:Fact:=⟨131,[(.agg (.gen [(iN 4),(iN 2)])),(iN 0)],(iN 0),none⟩
theorem ZnJ:q31.ok:=fct [q29,q30] ⟨ZA7,ZEP,trivial⟩ (by kernel_rfl)
def q32:Fact:=⟨84,[(.list (.ints .i64 [0,0]))],(iN 0),none⟩
theorem Zld:q32.ok:=fct [] trivial (by kernel_rfl)
def q33:Fact:=⟨99,[(.agg (.gen [(iN 4),(iN 2)])),(iN 0)],(.tup [(.agg (.gen [(iN 4),(iN 2)])),(iN 0)]),none⟩
theorem Zvs:q33.ok:=fct [q28,q31,q32] ⟨ZCn,ZnJ,Zld,trivial⟩ (by kernel_rfl)
def q34:Fact:=⟨87,[(iN 0),(iN 0),(iN 63)],(.bool true),none⟩
theorem ZAX:q34.ok:=fct [] trivial (by kernel_rfl)
def q35:Fact:=⟨100,[(iN 0)],(.bool true),none⟩
theorem ZuX:q35.ok:=fct [q34] ⟨ZAX,trivial⟩ (by kernel_rfl)
def q36:Fact:=⟨87,[(iN 9),(iN 0),(iN 255)],(.bool true),none⟩
theorem ZDK:q36.ok:=fct [] trivial (by kernel_rfl)
def q37:Fact:=⟨93,[(iN 9)],(.bool true),none⟩
theorem ZuW:q37.ok:=fct [q36] ⟨ZDK,trivial⟩ (by kernel_rfl)
def q38:Fact:=⟨128,[(iN 2)],(iN 0),none⟩
theorem Zpv:q38.ok:=fct [] trivial (by kernel_rfl)
def q39:Fact:=⟨127,[(.list (.ints .i64 [1,2])),(.fn 128 [])],(iN 0),none⟩
theorem ZD8:q39.ok:=fct [q5,q38] ⟨ZsH,Zpv,trivial⟩ (by kernel_rfl)
def q40:Fact:=⟨94,[(.list (.ints .i64 [1,2]))],(iN 0),none⟩
theorem ZC4:q40.ok:=fct [q39] ⟨ZD8,trivial⟩ (by kernel_rfl)
def q41:Fact:=⟨30,[(.agg (.gen [(iN 9),(iN 0),(.list (.ints .i64 [1,2]))]))],(iN 0),none⟩
theorem ZEu:q41.ok:=fct [q37,q10,q4,q1,q40,q20] ⟨ZuW,ZvU,ZfG,Zn4,ZC4,ZlA,trivial⟩ (by kernel_rfl)
def q42:Fact:=⟨128,[(iN 3)],(iN 0),none⟩
theorem Zvm:q42.ok:=fct [] trivial (by kernel_rfl)
def q43:Fact:=⟨127,[(.list (.ints .i64 [3])),(.fn 128 [])],(iN 0),none⟩
theorem ZD6:q43.ok:=fct [q42] ⟨Zvm,trivial⟩ (by kernel_rfl)
def q44:Fact:=⟨94,[(.list (.ints .i64 [3]))],(iN 0),none⟩
theorem ZDQ:q44.ok:=fct [q43] ⟨ZD6,trivial⟩ (by kernel_rfl)
def q45:Fact:=⟨30,[(.agg (.gen [(iN 9),(iN 1),(.list (.ints .i64 [3]))]))],(iN 0),none⟩
theorem ZCA:q45.ok:=fct [q37,q3,q4,q1,q44,q20] ⟨ZuW,ZER,ZfG,Zn4,ZDQ,ZlA,trivial⟩ (by kernel_rfl)
def q46:Fact:=⟨129,[(.list (.gen [(.agg (.gen [(iN 9),(iN 0),(.list (.ints .i64 [1,2]))])),(.agg (.gen [(iN 9),(iN 1),(.list (.ints .i64 [3]))]))])),(.fn 30 [])],(iN 0),none⟩
theorem ZBb:q46.ok:=fct [q41,q45] ⟨ZEu,ZCA,trivial⟩ (by kernel_rfl)
def q47:Fact:=⟨96,[(.list (.gen [(.agg (.gen [(iN 9),(iN 0),(.list (.ints .i64 [1,2]))])),(.agg (.gen [(iN 9),(iN 1),(.list (.ints .i64 [3]))]))]))],(iN 0),none⟩
theorem ZAY:q47.ok:=fct [q1,q46,q32] ⟨Zn4,ZBb,Zld,trivial⟩ (by kernel_rfl)
def q48:Fact:=⟨130,[(.list (.gen [(.agg (.gen [(iN 9),(iN 0),(.list (.ints .i64 [1,2]))])),(.agg (.gen [(iN 9),(iN 1),(.list (.ints .i64 [3]))]))]))],(.row 0 0),(some ⟨57,3,(.gen [(.agg (.gen [(iN 9),(iN 0),(.list (.ints .i64 [1,2]))])),(.agg (.gen [(iN 9),(iN 1),(.list (.ints .i64 [3]))]))])⟩)⟩
theorem ZD5:q48.ok:=fct [] trivial (by kernel_rfl)
def q49:Fact:=⟨98,[(.agg (.gen [(iN 4),(iN 2)])),(.list (.gen [(.agg (.gen [(iN 9),(iN 0),(.list (.ints .i64 [1,2]))])),(.agg (.gen [(iN 9),(iN 1),(.list (.ints .i64 [3]))]))]))],(.row 0 0),(some ⟨57,3,(.big (.agg [(.int .i64),(.int .i64),(.ints .i64)]) [(.agg (.gen [(iN 9),(iN 0),(.list (.ints .i64 [1,2]))])),(.agg (.gen [(iN 9),(iN 1),(.list (.ints .i64 [3]))])),(.agg (.gen [(iN 255),(iN 0),(.list (.ints .i64 []))]))])⟩)⟩
theorem ZC3:q49.ok:=fct [q48] ⟨ZD5,trivial⟩ (by kernel_rfl)
def q50:Fact:=⟨97,[(.list (.big (.agg [(.int .i64),(.int .i64),(.ints .i64)]) [(.agg (.gen [(iN 9),(iN 0),(.list (.ints .i64 [1,2]))])),(.agg (.gen [(iN 9),(iN 1),(.list (.ints .i64 [3]))])),(.agg (.gen [(iN 255),(iN 0),(.list (.ints .i64 []))]))]))],(.tup [(.list (.ints .i64 [9,0,2,1,2,9,1,1,3,255,0,0])),(.list (.ints .i64 [0,5,9]))]),none⟩
theorem ZFJ:q50.ok:=fct [] trivial (by kernel_rfl)
def q51:Fact:=⟨102,[(.list (.ints .i64 [9,0,2,1]))],(.row 0 0),(some ⟨3,1,(.ints .i64 [9,0,2,1])⟩)⟩
theorem ZAN:q51.ok:=fct [] trivial (by kernel_rfl)
def q52:Fact:=⟨138,[(iN 5)],(.bool false),none⟩
theorem Zqr:q52.ok:=fct [] trivial (by kernel_rfl)
def q53:Fact:=⟨133,[(iN 5),(iN 0)],(.bool false),none⟩
theorem ZGj:q53.ok:=fct [q52] ⟨Zqr,trivial⟩ (by kernel_rfl)
def q54:Fact:=⟨138,[(iN 0)],(.bool false),none⟩
theorem Zu2:q54.ok:=fct [] trivial (by kernel_rfl)
def q55:Fact:=⟨133,[(iN 0),(iN 0)],(.bool false),none⟩
theorem ZBs:q55.ok:=fct [q54] ⟨Zu2,trivial⟩ (by kernel_rfl)
def q56:Fact:=⟨103,[(.list (.ints .i64 [0,5,9])),(iN 0)],(.tup [(iN 0),(.bool true)]),none⟩
theorem ZBD:q56.ok:=fct [q53,q55] ⟨ZGj,ZBs,trivial⟩ (by kernel_rfl)
def q57:Fact:=⟨102,[(.list (.ints .i64 [2,9,1,1]))],(.row 0 0),(some ⟨3,1,(.ints .i64 [2,9,1,1])⟩)⟩
theorem ZBW:q57.ok:=fct [] trivial (by kernel_rfl)
def q58:Fact:=⟨133,[(iN 5),(iN 4)],(.bool false),none⟩
theorem ZG5:q58.ok:=fct [q52] ⟨Zqr,trivial⟩ (by kernel_rfl)
def q59:Fact:=⟨133,[(iN 0),(iN 4)],(.bool true),none⟩
theorem ZEV:q59.ok:=fct [q54] ⟨Zu2,trivial⟩ (by kernel_rfl)
def q60:Fact:=⟨134,[(iN 5)],(.bool false),none⟩
theorem ZCJ:q60.ok:=fct [] trivial (by kernel_rfl)
def q61:Fact:=⟨103,[(.list (.ints .i64 [0,5,9])),(iN 4)],(.tup [(iN 1),(.bool false)]),none⟩
theorem ZCe:q61.ok:=fct [q58,q59,q60] ⟨ZG5,ZEV,ZCJ,trivial⟩ (by kernel_rfl)
def q62:Fact:=⟨102,[(.list (.ints .i64 [3,255,0,0]))],(.row 0 0),(some ⟨3,1,(.ints .i64 [3,255,0,0])⟩)⟩
theorem ZGg:q62.ok:=fct [] trivial (by kernel_rfl)
def q63:Fact:=⟨133,[(iN 5),(iN 8)],(.bool true),none⟩
theorem ZBh:q63.ok:=fct [q52] ⟨Zqr,trivial⟩ (by kernel_rfl)
def q64:Fact:=⟨138,[(iN 9)],(.bool false),none⟩
theorem ZGw:q64.ok:=fct [] trivial (by kernel_rfl)
def q65:Fact:=⟨133,[(iN 9),(iN 8)],(.bool false),none⟩
theorem ZGo:q65.ok:=fct [q64] ⟨ZGw,trivial⟩ (by kernel_rfl)
def q66:Fact:=⟨134,[(iN 9)],(.bool false),none⟩
theorem ZDO:q66.ok:=fct [] trivial (by kernel_rfl)
def q67:Fact:=⟨103,[(.list (.ints .i64 [0,5,9])),(iN 8)],(.tup [(iN 2),(.bool false)]),none⟩
theorem ZBl:q67.ok:=fct [q63,q65,q66] ⟨ZBh,ZGo,ZDO,trivial⟩ (by kernel_rfl)
def q68:Fact:=⟨35,[(.agg (.gen [(iN 4),(iN 2)])),(.agg (.gen [(iN 0),(iN 0)])),(.list (.gen [(.agg (.gen [(iN 9),(iN 0),(.list (.ints .i64 [1,2]))])),(.agg (.gen [(iN 9),(iN 1),(.list (.ints .i64 [3]))]))]))],(.tup [(.list (.gen [(.agg (.gen [(iN 0),(iN 0),(iN 0),(.list (.ints .i64 [9,0,2,1]))])),(.agg (.gen [(iN 0),(iN 1),(iN 1),(.list (.ints .i64 [2,9,1,1]))])),(.agg (.gen [(iN 0),(iN 2),(iN 1),(.list (.ints .i64 [3,255,0,0]))]))])),(iN 0)]),none⟩
theorem ZE7:q68.ok:=fct [q33,q35,q4,q47,q20,q49,q50,q51,q56,q57,q61,q62,q67] ⟨Zvs,ZuX,ZfG,ZAY,ZlA,ZC3,ZFJ,ZAN,ZBD,ZBW,ZCe,ZGg,ZBl,trivial⟩ (by kernel_rfl)
def q69:Fact:=⟨55,[(.list (.ints .i64 [9,0,2,1]))],(.row 0 0),(some ⟨3,1,(.ints .i64 [9,0,2,1])⟩)⟩
theorem ZEy:q69.ok:=fct [] trivial (by kernel_rfl)
def q70:Fact:=⟨40,[(.agg (.gen [(iN 0),(iN 0),(iN 0),(.list (.ints .i64 [9,0,2,1]))]))],(.agg (.gen [(iN 0),(iN 0),(iN 0),(.list (.ints .i64 [9,0,2,1]))])),none⟩
theorem ZGk:q70.ok:=fct [q69] ⟨ZEy,trivial⟩ (by kernel_rfl)
def q71:Fact:=⟨55,[(.list (.ints .i64 [2,9,1,1]))],(.row 0 0),(some ⟨3,1,(.ints .i64 [2,9,1,1])⟩)⟩
theorem ZFn:q71.ok:=fct [] trivial (by kernel_rfl)
def q72:Fact:=⟨40,[(.agg (.gen [(iN 0),(iN 1),(iN 1),(.list (.ints .i64 [2,9,1,1]))]))],(.agg (.gen [(iN 0),(iN 1),(iN 1),(.list (.ints .i64 [2,9,1,1]))])),none⟩
theorem ZGP:q72.ok:=fct [q71] ⟨ZFn,trivial⟩ (by kernel_rfl)
def q73:Fact:=⟨55,[(.list (.ints .i64 [3,255,0,0]))],(.row 0 0),(some ⟨3,1,(.ints .i64 [3,255,0,0])⟩)⟩
theorem ZFi:q73.ok:=fct [] trivial (by kernel_rfl)
def q74:Fact:=⟨40,[(.agg (.gen [(iN 0),(iN 2),(iN 1),(.list (.ints .i64 [3,255,0,0]))]))],(.agg (.gen [(iN 0),(iN 2),(iN 1),(.list (.ints .i64 [3,255,0,0]))])),none⟩
theorem ZD0:q74.ok:=fct [q73] ⟨ZFi,trivial⟩ (by kernel_rfl)
def q75:Fact:=⟨17,[(.list (.gen [(.agg (.gen [(iN 0),(iN 0),(iN 0),(.list (.ints .i64 [9,0,2,1]))])),(.agg (.gen [(iN 0),(iN 1),(iN 1),(.list (.ints .i64 [2,9,1,1]))])),(.agg (.gen [(iN 0),(iN 2),(iN 1),(.list (.ints .i64 [3,255,0,0]))]))]))],(.row 0 0),(some ⟨74,4,(.big (.agg [(.int .i64),(.int .i64),(.int .i64),(.ints .i64)]) [(.agg (.gen [(iN 0),(iN 0),(iN 0),(.list (.ints .i64 [9,0,2,1]))])),(.agg (.gen [(iN 0),(iN 1),(iN 1),(.list (.ints .i64 [2,9,1,1]))])),(.agg (.gen [(iN 0),(iN 2),(iN 1),(.list (.ints .i64 [3,255,0,0]))]))])⟩)⟩
theorem ZBB:q75.ok:=fct [q70,q72,q74] ⟨ZGk,ZGP,ZD0,trivial⟩ (by kernel_rfl)
def q76:Fact:=⟨87,[(iN 0),(iN 0),(iN 3)],(.bool true),none⟩
theorem ZEW:q76.ok:=fct [] trivial (by kernel_rfl)
def q77:Fact:=⟨128,[(iN 9)],(iN 0),none⟩
theorem ZvF:q77.ok:=fct [] trivial (by kernel_rfl)
def q78:Fact:=⟨127,[(.list (.ints .i64 [9,0,2,1])),(.fn 128 [])],(iN 0),none⟩
theorem ZC9:q78.ok:=fct [q77,q11,q38,q5] ⟨ZvF,ZqI,Zpv,ZsH,trivial⟩ (by kernel_rfl)
def q79:Fact:=⟨94,[(.list (.ints .i64 [9,0,2,1]))],(iN 0),none⟩
theorem ZBC:q79.ok:=fct [q78] ⟨ZC9,trivial⟩ (by kernel_rfl)
def q80:Fact:=⟨84,[(.list (.ints .i64 [0,0,0,0]))],(iN 0),none⟩
theorem ZrY:q80.ok:=fct [] trivial (by kernel_rfl)
def q81:Fact:=⟨110,[(.agg (.gen [(iN 4),(iN 2)])),(.agg (.gen [(iN 0),(iN 0),(iN 0),(.list (.ints .i64 [9,0,2,1]))]))],(iN 0),none⟩
theorem ZA8:q81.ok:=fct [q31,q35,q76,q4,q0,q79,q80] ⟨ZnJ,ZuX,ZEW,ZfG,Zo7,ZBC,ZrY,trivial⟩ (by kernel_rfl)
def q82:Fact:=⟨87,[(iN 1),(iN 0),(iN 63)],(.bool true),none⟩
theorem ZBd:q82.ok:=fct [] trivial (by kernel_rfl)
def q83:Fact:=⟨100,[(iN 1)],(.bool true),none⟩
theorem ZFx:q83.ok:=fct [q82] ⟨ZBd,trivial⟩ (by kernel_rfl)
def q84:Fact:=⟨87,[(iN 1),(iN 0),(iN 3)],(.bool true),none⟩
theorem Zuq:q84.ok:=fct [] trivial (by kernel_rfl)
def q85:Fact:=⟨127,[(.list (.ints .i64 [2,9,1,1])),(.fn 128 [])],(iN 0),none⟩
theorem ZEC:q85.ok:=fct [q38,q77,q5] ⟨Zpv,ZvF,ZsH,trivial⟩ (by kernel_rfl)
def q86:Fact:=⟨94,[(.list (.ints .i64 [2,9,1,1]))],(iN 0),none⟩
theorem ZDJ:q86.ok:=fct [q85] ⟨ZEC,trivial⟩ (by kernel_rfl)
def q87:Fact:=⟨110,[(.agg (.gen [(iN 4),(iN 2)])),(.agg (.gen [(iN 0),(iN 1),(iN 1),(.list (.ints .i64 [2,9,1,1]))]))],(iN 0),none⟩
theorem ZCY:q87.ok:=fct [q31,q83,q84,q4,q0,q86,q80] ⟨ZnJ,ZFx,Zuq,ZfG,Zo7,ZDJ,ZrY,trivial⟩ (by kernel_rfl)
def q88:Fact:=⟨87,[(iN 2),(iN 0),(iN 63)],(.bool true),none⟩
theorem ZGz:q88.ok:=fct [] trivial (by kernel_rfl)
def q89:Fact:=⟨100,[(iN 2)],(.bool true),none⟩
theorem ZBT:q89.ok:=fct [q88] ⟨ZGz,trivial⟩ (by kernel_rfl)
def q90:Fact:=⟨127,[(.list (.ints .i64 [3,255,0,0])),(.fn 128 [])],(iN 0),none⟩
theorem ZDC:q90.ok:=fct [q42,q17,q11] ⟨Zvm,ZtY,ZqI,trivial⟩ (by kernel_rfl)
def q91:Fact:=⟨94,[(.list (.ints .i64 [3,255,0,0]))],(iN 0),none⟩
theorem ZBE:q91.ok:=fct [q90] ⟨ZDC,trivial⟩ (by kernel_rfl)
def q92:Fact:=⟨110,[(.agg (.gen [(iN 4),(iN 2)])),(.agg (.gen [(iN 0),(iN 2),(iN 1),(.list (.ints .i64 [3,255,0,0]))]))],(iN 0),none⟩
theorem ZEN:q92.ok:=fct [q31,q89,q84,q4,q0,q91,q80] ⟨ZnJ,ZBT,Zuq,ZfG,Zo7,ZBE,ZrY,trivial⟩ (by kernel_rfl)
def q93:Fact:=⟨117,[(.list (.big (.agg [(.int .i64),(.int .i64),(.int .i64),(.ints .i64)]) [(.agg (.gen [(iN 0),(iN 0),(iN 0),(.list (.ints .i64 [9,0,2,1]))])),(.agg (.gen [(iN 0),(iN 1),(iN 1),(.list (.ints .i64 [2,9,1,1]))])),(.agg (.gen [(iN 0),(iN 2),(iN 1),(.list (.ints .i64 [3,255,0,0]))]))])),(.val (.func (.func 110) ⟨[(.agg ⟨[(.int .i64 4),(.int .i64 2)]⟩)]⟩ ⟨[]⟩))],(iN 0),none⟩
theorem ZEU:q93.ok:=fct [q81,q87,q92] ⟨ZA8,ZCY,ZEN,trivial⟩ (by kernel_rfl)
def q94:Fact:=⟨78,[(.agg (.gen [(iN 4),(iN 2)])),(iN 0),(.list (.big (.agg [(.int .i64),(.int .i64),(.int .i64),(.ints .i64)]) [(.agg (.gen [(iN 0),(iN 0),(iN 0),(.list (.ints .i64 [9,0,2,1]))])),(.agg (.gen [(iN 0),(iN 1),(iN 1),(.list (.ints .i64 [2,9,1,1]))])),(.agg (.gen [(iN 0),(iN 2),(iN 1),(.list (.ints .i64 [3,255,0,0]))]))]))],(.tup [(.agg (.gen [(iN 4),(iN 2)])),(iN 0)]),none⟩
theorem ZtX:q94.ok:=fct [q33,q1,q93,q20] ⟨Zvs,Zn4,ZEU,ZlA,trivial⟩ (by kernel_rfl)
def q95:Fact:=⟨120,[(iN 65),(iN 64)],(iN 1),none⟩
theorem ZGO:q95.ok:=fct [] trivial (by kernel_rfl)
def q96:Fact:=⟨119,[(.agg (.gen [(iN 0),(iN 1),(iN 1),(.list (.ints .i64 [2,9,1,1])),(iN 65)])),(.agg (.gen [(iN 0),(iN 0),(iN 0),(.list (.ints .i64 [9,0,2,1])),(iN 64)]))],(iN 1),none⟩
theorem ZD1:q96.ok:=fct [q95] ⟨ZGO,trivial⟩ (by kernel_rfl)
def q97:Fact:=⟨120,[(iN 66),(iN 65)],(iN 1),none⟩
theorem ZGH:q97.ok:=fct [] trivial (by kernel_rfl)
def q98:Fact:=⟨119,[(.agg (.gen [(iN 0),(iN 2),(iN 1),(.list (.ints .i64 [3,255,0,0])),(iN 66)])),(.agg (.gen [(iN 0),(iN 1),(iN 1),(.list (.ints .i64 [2,9,1,1])),(iN 65)]))],(iN 1),none⟩
theorem ZEq:q98.ok:=fct [q97] ⟨ZGH,trivial⟩ (by kernel_rfl)
def q99:Fact:=⟨139,[(.list (.big (.agg [(.int .i64),(.int .i64),(.int .i64),(.ints .i64),(.int .i64)]) [(.agg (.gen [(iN 0),(iN 0),(iN 0),(.list (.ints .i64 [9,0,2,1])),(iN 64)])),(.agg (.gen [(iN 0),(iN 1),(iN 1),(.list (.ints .i64 [2,9,1,1])),(iN 65)])),(.agg (.gen [(iN 0),(iN 2),(iN 1),(.list (.ints .i64 [3,255,0,0])),(iN 66)]))])),(iN 0),(iN 3),(.fn 119 [])],(.tup []),none⟩
theorem ZGt:q99.ok:=fct [q96,q98] ⟨ZD1,ZEq,trivial⟩ (by kernel_rfl)
def q100:Fact:=⟨137,[(.list (.big (.agg [(.int .i64),(.int .i64),(.int .i64),(.ints .i64),(.int .i64)]) [(.agg (.gen [(iN 0),(iN 0),(iN 0),(.list (.ints .i64 [9,0,2,1])),(iN 64)])),(.agg (.gen [(iN 0),(iN 1),(iN 1),(.list (.ints .i64 [2,9,1,1])),(iN 65)])),(.agg (.gen [(iN 0),(iN 2),(iN 1),(.list (.ints .i64 [3,255,0,0])),(iN 66)]))])),(iN 3),(.fn 119 [])],(.tup []),none⟩
theorem Zzx:q100.ok:=fct [q99] ⟨ZGt,trivial⟩ (by kernel_rfl)
def q101:Fact:=⟨118,[(.list (.big (.agg [(.int .i64),(.int .i64),(.int .i64),(.ints .i64),(.int .i64)]) [(.agg (.gen [(iN 0),(iN 0),(iN 0),(.list (.ints .i64 [9,0,2,1])),(iN 64)])),(.agg (.gen [(iN 0),(iN 1),(iN 1),(.list (.ints .i64 [2,9,1,1])),(iN 65)])),(.agg (.gen [(iN 0),(iN 2),(iN 1),(.list (.ints .i64 [3,255,0,0])),(iN 66)]))])),(.fn 119 [])],(.tup []),none⟩
theorem ZpY:q101.ok:=fct [q100] ⟨Zzx,trivial⟩ (by kernel_rfl)
def q102:Fact:=⟨122,[(.agg (.gen [(iN 0),(iN 1),(iN 1),(.list (.ints .i64 [2,9,1,1])),(iN 65)])),(.agg (.gen [(iN 0),(iN 0),(iN 0),(.list (.ints .i64 [9,0,2,1])),(iN 64)]))],(.bool false),none⟩
theorem Zma:q102.ok:=fct [] trivial (by kernel_rfl)
def q103:Fact:=⟨122,[(.agg (.gen [(iN 0),(iN 2),(iN 1),(.list (.ints .i64 [3,255,0,0])),(iN 66)])),(.agg (.gen [(iN 0),(iN 1),(iN 1),(.list (.ints .i64 [2,9,1,1])),(iN 65)]))],(.bool false),none⟩
theorem Zl1:q103.ok:=fct [] trivial (by kernel_rfl)
def q104:Fact:=⟨121,[(.list (.big (.agg [(.int .i64),(.int .i64),(.int .i64),(.ints .i64),(.int .i64)]) [(.agg (.gen [(iN 0),(iN 0),(iN 0),(.list (.ints .i64 [9,0,2,1])),(iN 64)])),(.agg (.gen [(iN 0),(iN 1),(iN 1),(.list (.ints .i64 [2,9,1,1])),(iN 65)])),(.agg (.gen [(iN 0),(iN 2),(iN 1),(.list (.ints .i64 [3,255,0,0])),(iN 66)]))])),(.fn 122 [])],(.list (.big (.agg [(.int .i64),(.int .i64),(.int .i64),(.ints .i64),(.int .i64)]) [(.agg (.gen [(iN 0),(iN 0),(iN 0),(.list (.ints .i64 [9,0,2,1])),(iN 64)])),(.agg (.gen [(iN 0),(iN 1),(iN 1),(.list (.ints .i64 [2,9,1,1])),(iN 65)])),(.agg (.gen [(iN 0),(iN 2),(iN 1),(.list (.ints .i64 [3,255,0,0])),(iN 66)]))])),none⟩
theorem ZqB:q104.ok:=fct [q102,q103] ⟨Zma,Zl1,trivial⟩ (by kernel_rfl)
def q105:Fact:=⟨79,[(iN 0),(.list (.big (.agg [(.int .i64),(.int .i64),(.int .i64),(.ints .i64)]) [(.agg (.gen [(iN 0),(iN 0),(iN 0),(.list (.ints .i64 [9,0,2,1]))])),(.agg (.gen [(iN 0),(iN 1),(iN 1),(.list (.ints .i64 [2,9,1,1]))])),(.agg (.gen [(iN 0),(iN 2),(iN 1),(.list (.ints .i64 [3,255,0,0]))]))]))],(.row 0 0),(some ⟨140,5,(.big (.agg [(.int .i64),(.int .i64),(.int .i64),(.ints .i64),(.int .i64)]) [(.agg (.gen [(iN 0),(iN 0),(iN 0),(.list (.ints .i64 [9,0,2,1])),(iN 64)])),(.agg (.gen [(iN 0),(iN 1),(iN 1),(.list (.ints .i64 [2,9,1,1])),(iN 65)])),(.agg (.gen [(iN 0),(iN 2),(iN 1),(.list (.ints .i64 [3,255,0,0])),(iN 66)]))])⟩)⟩
theorem ZrP:q105.ok:=fct [q101,q104,q102,q103] ⟨ZpY,ZqB,Zma,Zl1,trivial⟩ (by kernel_rfl)
def q106:Fact:=⟨113,[(.list (.gen [.nils,(.list (.ints .i64 [9,0,2,1]))]))],(.row 0 0),(some ⟨3,1,(.ints .i64 [9,0,2,1])⟩)⟩
theorem ZpF:q106.ok:=fct [] trivial (by kernel_rfl)
def q107:Fact:=⟨113,[(.list (.big (.ints .i64) [(.list (.ints .i64 [9,0,2,1])),(.list (.ints .i64 [2,9,1,1]))]))],(.row 0 0),(some ⟨3,1,(.ints .i64 [9,0,2,1,2,9,1,1])⟩)⟩
theorem Zw1:q107.ok:=fct [] trivial (by kernel_rfl)
def q108:Fact:=⟨123,[(.eptr (.agg (.gen [(.bool true),(.list (.ints .i64 [9,0,2,1])), .nils])) 0),(.agg (.gen [(iN 0),(iN 1),(iN 1),(.list (.ints .i64 [2,9,1,1]))]))],(iN 1),none⟩
theorem Zq8:q108.ok:=fct [q107] ⟨Zw1,trivial⟩ (by kernel_rfl)
def q109:Fact:=⟨113,[(.list (.gen [(.list (.ints .i64 [9,0,2,1])),(.list (.ints .i64 [2,9,1,1]))]))],(.row 0 0),(some ⟨3,1,(.ints .i64 [9,0,2,1,2,9,1,1])⟩)⟩
theorem ZpS:q109.ok:=fct [] trivial (by kernel_rfl)
def q110:Fact:=⟨102,[(.list (.ints .i64 [1,2]))],(.row 0 0),(some ⟨3,1,(.ints .i64 [1,2])⟩)⟩
theorem ZpG:q110.ok:=fct [] trivial (by kernel_rfl)
def q111:Fact:=⟨113,[(.list (.big (.ints .i64) [(.list (.ints .i64 [9,1,1])),(.list (.ints .i64 [3,255,0,0]))]))],(.row 0 0),(some ⟨3,1,(.ints .i64 [9,1,1,3,255,0,0])⟩)⟩
theorem Zw9:q111.ok:=fct [] trivial (by kernel_rfl)
def q112:Fact:=⟨123,[(.eptr (.agg (.gen [(.bool true),(.list (.ints .i64 [9,1,1])),(.list (.gen [(.agg (.gen [(iN 9),(iN 0),(.list (.ints .i64 [1,2]))]))]))])) 0),(.agg (.gen [(iN 0),(iN 2),(iN 1),(.list (.ints .i64 [3,255,0,0]))]))],(iN 1),none⟩
theorem ZqO:q112.ok:=fct [q111] ⟨Zw9,trivial⟩ (by kernel_rfl)
def q113:Fact:=⟨113,[(.list (.gen [(.list (.ints .i64 [9,1,1])),(.list (.ints .i64 [3,255,0,0]))]))],(.row 0 0),(some ⟨3,1,(.ints .i64 [9,1,1,3,255,0,0])⟩)⟩
theorem ZpK:q113.ok:=fct [] trivial (by kernel_rfl)
def q114:Fact:=⟨102,[(.list (.ints .i64 [3]))],(.row 0 0),(some ⟨3,1,(.ints .i64 [3])⟩)⟩
theorem ZrQ:q114.ok:=fct [] trivial (by kernel_rfl)
def q115:Fact:=⟨102,[(.list (.ints .i64 []))],(.list (.ints .i64 [])),(some ⟨0,0,(.gen [])⟩)⟩
theorem Zrq:q115.ok:=Znr [] (by decide)
def q116:Fact:=⟨16,[(.agg (.gen [(iN 4),(iN 2)])),(iN 0),(.list (.big (.agg [(.int .i64),(.int .i64),(.int .i64),(.ints .i64)]) [(.agg (.gen [(iN 0),(iN 0),(iN 0),(.list (.ints .i64 [9,0,2,1]))])),(.agg (.gen [(iN 0),(iN 1),(iN 1),(.list (.ints .i64 [2,9,1,1]))])),(.agg (.gen [(iN 0),(iN 2),(iN 1),(.list (.ints .i64 [3,255,0,0]))]))]))],(.tup [(.list (.gen [(.agg (.gen [(iN 9),(iN 0),(.list (.ints .i64 [1,2]))])),(.agg (.gen [(iN 9),(iN 1),(.list (.ints .i64 [3]))]))])),(iN 0)]),none⟩
theorem ZzC:q116.ok:=fct [q94,q105,q106,q108,q109,q110,q112,q113,q114,q115] ⟨ZtX,ZrP,ZpF,Zq8,ZpS,ZpG,ZqO,ZpK,ZrQ,Zrq,trivial⟩ (by kernel_rfl)
def q122:Fact:=⟨77,[],(.row 0 0),(some ⟨49,3,(.big (.agg [(.int .i64),(.int .i64),(.int .i64)]) [(.agg (.gen [(iN 0),(iN 10),(iN 12)])),(.agg (.gen [(iN 10),(iN 30),(iN 32)])),(.agg (.gen [(iN 20),(iN 50),(iN 51)]))])⟩)⟩
theorem Zzv:q122.ok:=fct [] trivial (by kernel_rfl)
def q123:Fact:=⟨87,[(iN 0),(iN 0),(iN 1000000)],(.bool true),none⟩
theorem Zy5:q123.ok:=fct [] trivial (by kernel_rfl)
def q124:Fact:=⟨87,[(iN 10),(iN 0),(iN 1000000000000)],(.bool true),none⟩
theorem Zx4:q124.ok:=fct [] trivial (by kernel_rfl)
def q125:Fact:=⟨105,[(iN 10)],(.bool true),none⟩
theorem Zwv:q125.ok:=fct [q124] ⟨Zx4,trivial⟩ (by kernel_rfl)
def q126:Fact:=⟨87,[(iN 12),(iN 0),(iN 1000000000000)],(.bool true),none⟩
theorem Zyq:q126.ok:=fct [] trivial (by kernel_rfl)
def q127:Fact:=⟨105,[(iN 12)],(.bool true),none⟩
theorem ZAt:q127.ok:=fct [q126] ⟨Zyq,trivial⟩ (by kernel_rfl)
def q128:Fact:=⟨86,[(.bool true),(iN 9)],(iN 0),none⟩
theorem Zx0:q128.ok:=fct [] trivial (by kernel_rfl)
def q129:Fact:=⟨87,[(iN 10),(iN 0),(iN 1000000)],(.bool true),none⟩
theorem Zzq:q129.ok:=fct [] trivial (by kernel_rfl)
def q130:Fact:=⟨87,[(iN 30),(iN 0),(iN 1000000000000)],(.bool true),none⟩
theorem Zxs:q130.ok:=fct [] trivial (by kernel_rfl)
def q131:Fact:=⟨105,[(iN 30)],(.bool true),none⟩
theorem Zxr:q131.ok:=fct [q130] ⟨Zxs,trivial⟩ (by kernel_rfl)
def q132:Fact:=⟨87,[(iN 32),(iN 0),(iN 1000000000000)],(.bool true),none⟩
theorem ZwX:q132.ok:=fct [] trivial (by kernel_rfl)
def q133:Fact:=⟨105,[(iN 32)],(.bool true),none⟩
theorem ZzQ:q133.ok:=fct [q132] ⟨ZwX,trivial⟩ (by kernel_rfl)
def q134:Fact:=⟨87,[(iN 20),(iN 0),(iN 1000000)],(.bool true),none⟩
theorem ZwK:q134.ok:=fct [] trivial (by kernel_rfl)
def q135:Fact:=⟨87,[(iN 50),(iN 0),(iN 1000000000000)],(.bool true),none⟩
theorem Zwk:q135.ok:=fct [] trivial (by kernel_rfl)
def q136:Fact:=⟨105,[(iN 50)],(.bool true),none⟩
theorem Zzb:q136.ok:=fct [q135] ⟨Zwk,trivial⟩ (by kernel_rfl)
def q137:Fact:=⟨87,[(iN 51),(iN 0),(iN 1000000000000)],(.bool true),none⟩
theorem Zww:q137.ok:=fct [] trivial (by kernel_rfl)
def q138:Fact:=⟨105,[(iN 51)],(.bool true),none⟩
theorem ZwG:q138.ok:=fct [q137] ⟨Zww,trivial⟩ (by kernel_rfl)
def q139:Fact:=⟨41,[(.list (.big (.agg [(.int .i64),(.int .i64),(.int .i64)]) [(.agg (.gen [(iN 0),(iN 10),(iN 12)])),(.agg (.gen [(iN 10),(iN 30),(iN 32)])),(.agg (.gen [(iN 20),(iN 50),(iN 51)]))]))],(.tup [(iN 0),(iN 0)]),none⟩
theorem Zzg:q139.ok:=fct [q0,q1,q32,q123,q125,q127,q4,q128,q129,q131,q133,q134,q136,q138] ⟨Zo7,Zn4,Zld,Zy5,Zwv,ZAt,ZfG,Zx0,Zzq,Zxr,ZzQ,ZwK,Zzb,ZwG,trivial⟩ (by kernel_rfl)
def q140:Fact:=⟨114,[(iN 18),(iN 10)],(.agg (.gen [(iN 9),(iN 5)])),none⟩
theorem ZwV:q140.ok:=fct [] trivial (by kernel_rfl)
def q141:Fact:=⟨114,[(iN 22),(iN 10)],(.agg (.gen [(iN 11),(iN 5)])),none⟩
theorem Zxa:q141.ok:=fct [] trivial (by kernel_rfl)
def q142:Fact:=⟨114,[(iN 38),(iN 20)],(.agg (.gen [(iN 19),(iN 10)])),none⟩
theorem Zwg:q142.ok:=fct [] trivial (by kernel_rfl)
def q143:Fact:=⟨114,[(iN 41),(iN 20)],(.agg (.gen [(iN 41),(iN 20)])),none⟩
theorem ZxR:q143.ok:=fct [] trivial (by kernel_rfl)
def q144:Fact:=⟨135,[(.agg (.gen [(iN 9),(iN 5)])),(.agg (.gen [(iN 19),(iN 10)]))],(.bool true),none⟩
theorem ZAq:q144.ok:=fct [] trivial (by kernel_rfl)
def q145:Fact:=⟨135,[(.agg (.gen [(iN 41),(iN 20)])),(.agg (.gen [(iN 11),(iN 5)]))],(.bool true),none⟩
theorem Zxp:q145.ok:=fct [] trivial (by kernel_rfl)
def q146:Fact:=⟨114,[(iN 21),(iN 10)],(.agg (.gen [(iN 21),(iN 10)])),none⟩
theorem ZzL:q146.ok:=fct [] trivial (by kernel_rfl)
def q147:Fact:=⟨135,[(.agg (.gen [(iN 19),(iN 10)])),(.agg (.gen [(iN 9),(iN 5)]))],(.bool false),none⟩
theorem ZyJ:q147.ok:=fct [] trivial (by kernel_rfl)
def q148:Fact:=⟨135,[(.agg (.gen [(iN 21),(iN 10)])),(.agg (.gen [(iN 41),(iN 20)]))],(.bool false),none⟩
theorem ZzX:q148.ok:=fct [] trivial (by kernel_rfl)
def q149:Fact:=⟨106,[(.list (.big (.agg [(.int .i64),(.int .i64),(.int .i64)]) [(.agg (.gen [(iN 0),(iN 10),(iN 12)])),(.agg (.gen [(iN 10),(iN 30),(iN 32)])),(.agg (.gen [(iN 20),(iN 50),(iN 51)]))]))],(.agg (.gen [(iN 19),(iN 10),(iN 41),(iN 20)])),none⟩
theorem Zri:q149.ok:=fct [q140,q141,q142,q143,q144,q145,q146,q147,q148] ⟨ZwV,Zxa,Zwg,ZxR,ZAq,Zxp,ZzL,ZyJ,ZzX,trivial⟩ (by kernel_rfl)
def q150:Fact:=⟨135,[(.agg (.gen [(iN 41),(iN 20)])),(.agg (.gen [(iN 19),(iN 10)]))],(.bool false),none⟩
theorem ZxD:q150.ok:=fct [] trivial (by kernel_rfl)
def q151:Fact:=⟨107,[(.list (.big (.agg [(.int .i64),(.int .i64),(.int .i64)]) [(.agg (.gen [(iN 0),(iN 10),(iN 12)])),(.agg (.gen [(iN 10),(iN 30),(iN 32)])),(.agg (.gen [(iN 20),(iN 50),(iN 51)]))]))],(.bool true),none⟩
theorem ZAn:q151.ok:=fct [q149,q150] ⟨Zri,ZxD,trivial⟩ (by kernel_rfl)
def q152:Fact:=⟨86,[(.bool true),(iN 13)],(iN 0),none⟩
theorem ZAr:q152.ok:=fct [] trivial (by kernel_rfl)
def q153:Fact:=⟨85,[(.list (.big (.agg [(.int .i64),(.int .i64),(.int .i64)]) [(.agg (.gen [(iN 0),(iN 10),(iN 12)])),(.agg (.gen [(iN 10),(iN 30),(iN 32)])),(.agg (.gen [(iN 20),(iN 50),(iN 51)]))]))],(iN 0),none⟩
theorem Zrc:q153.ok:=fct [q139,q0,q151,q152,q32] ⟨Zzg,Zo7,ZAn,ZAr,Zld,trivial⟩ (by kernel_rfl)
def q154:Fact:=⟨87,[(iN 19),(iN (-1000000000)),(iN 1000000000)],(.bool true),none⟩
theorem Zv7:q154.ok:=fct [] trivial (by kernel_rfl)
def q155:Fact:=⟨87,[(iN 41),(iN (-1000000000)),(iN 1000000000)],(.bool true),none⟩
theorem Zwq:q155.ok:=fct [] trivial (by kernel_rfl)
def q156:Fact:=⟨42,[(.list (.big (.agg [(.int .i64),(.int .i64),(.int .i64)]) [(.agg (.gen [(iN 0),(iN 10),(iN 12)])),(.agg (.gen [(iN 10),(iN 30),(iN 32)])),(.agg (.gen [(iN 20),(iN 50),(iN 51)]))]))],(.tup [(.agg (.gen [(iN 19),(iN 10),(iN 41),(iN 20)])),(iN 0)]),none⟩
theorem ZwE:q156.ok:=fct [q153,q149,q154,q155] ⟨Zrc,Zri,Zv7,Zwq,trivial⟩ (by kernel_rfl)
def q157:Fact:=⟨87,[(iN 30),(iN 0),(iN 1000000)],(.bool true),none⟩
theorem Zyb:q157.ok:=fct [] trivial (by kernel_rfl)
def q158:Fact:=⟨91,[(.agg (.gen [(iN 0),(iN 10),(iN 10),(iN 30)]))],(iN 10),none⟩
theorem Zf6:q158.ok:=fct [] trivial (by kernel_rfl)
def q159:Fact:=⟨89,[(.agg (.gen [(iN 0),(iN 10),(iN 10),(iN 30)])),(iN 0)],(iN 100),none⟩
theorem ZzU:q159.ok:=fct [q158] ⟨Zf6,trivial⟩ (by kernel_rfl)
def q160:Fact:=⟨87,[(iN 100),(iN 100),(iN 120)],(.bool true),none⟩
theorem Zmx:q160.ok:=fct [] trivial (by kernel_rfl)
def q161:Fact:=⟨89,[(.agg (.gen [(iN 0),(iN 10),(iN 10),(iN 30)])),(iN 10)],(iN 300),none⟩
theorem ZzP:q161.ok:=fct [q158] ⟨Zf6,trivial⟩ (by kernel_rfl)
def q162:Fact:=⟨87,[(iN 300),(iN 300),(iN 320)],(.bool true),none⟩
theorem ZmJ:q162.ok:=fct [] trivial (by kernel_rfl)
def q163:Fact:=⟨89,[(.agg (.gen [(iN 0),(iN 10),(iN 10),(iN 30)])),(iN 20)],(iN 500),none⟩
theorem Zxt:q163.ok:=fct [q158] ⟨Zf6,trivial⟩ (by kernel_rfl)
def q164:Fact:=⟨87,[(iN 500),(iN 500),(iN 510)],(.bool true),none⟩
theorem Zry:q164.ok:=fct [] trivial (by kernel_rfl)
def q165:Fact:=⟨126,[(.agg (.gen [(iN 0),(iN 10),(iN 10),(iN 30)])),(.list (.big (.agg [(.int .i64),(.int .i64),(.int .i64)]) [(.agg (.gen [(iN 0),(iN 10),(iN 12)])),(.agg (.gen [(iN 10),(iN 30),(iN 32)])),(.agg (.gen [(iN 20),(iN 50),(iN 51)]))]))],(.bool true),none⟩
theorem Zzf:q165.ok:=fct [q159,q158,q160,q161,q162,q163,q164] ⟨ZzU,Zf6,Zmx,ZzP,ZmJ,Zxt,Zry,trivial⟩ (by kernel_rfl)
def q166:Fact:=⟨89,[(.agg (.gen [(iN 0),(iN 10),(iN 10),(iN 30)])),(iN 30)],(iN 700),none⟩
theorem Zxn:q166.ok:=fct [q158] ⟨Zf6,trivial⟩ (by kernel_rfl)
def q167:Fact:=⟨90,[(iN 700),(iN 10)],(iN 70),none⟩
theorem ZwL:q167.ok:=fct [] trivial (by kernel_rfl)
def q168:Fact:=⟨90,[(iN (-700)),(iN 10)],(iN (-70)),none⟩
theorem Zzi:q168.ok:=fct [] trivial (by kernel_rfl)
def q169:Fact:=⟨91,[(.agg (.gen [(iN 0),(iN 10),(iN 10),(iN 32)]))],(iN 10),none⟩
theorem Zj2:q169.ok:=fct [] trivial (by kernel_rfl)
def q170:Fact:=⟨89,[(.agg (.gen [(iN 0),(iN 10),(iN 10),(iN 32)])),(iN 0)],(iN 100),none⟩
theorem Zx3:q170.ok:=fct [q169] ⟨Zj2,trivial⟩ (by kernel_rfl)
def q171:Fact:=⟨89,[(.agg (.gen [(iN 0),(iN 10),(iN 10),(iN 32)])),(iN 10)],(iN 320),none⟩
theorem ZxP:q171.ok:=fct [q169] ⟨Zj2,trivial⟩ (by kernel_rfl)
def q172:Fact:=⟨87,[(iN 320),(iN 300),(iN 320)],(.bool true),none⟩
theorem Zpy:q172.ok:=fct [] trivial (by kernel_rfl)
def q173:Fact:=⟨89,[(.agg (.gen [(iN 0),(iN 10),(iN 10),(iN 32)])),(iN 20)],(iN 540),none⟩
theorem ZzY:q173.ok:=fct [q169] ⟨Zj2,trivial⟩ (by kernel_rfl)
def q174:Fact:=⟨87,[(iN 540),(iN 500),(iN 510)],(.bool false),none⟩
theorem ZzR:q174.ok:=fct [] trivial (by kernel_rfl)
def q175:Fact:=⟨126,[(.agg (.gen [(iN 0),(iN 10),(iN 10),(iN 32)])),(.list (.big (.agg [(.int .i64),(.int .i64),(.int .i64)]) [(.agg (.gen [(iN 0),(iN 10),(iN 12)])),(.agg (.gen [(iN 10),(iN 30),(iN 32)])),(.agg (.gen [(iN 20),(iN 50),(iN 51)]))]))],(.bool false),none⟩
theorem Zy1:q175.ok:=fct [q170,q169,q160,q171,q172,q173,q174] ⟨Zx3,Zj2,Zmx,ZxP,Zpy,ZzY,ZzR,trivial⟩ (by kernel_rfl)
def q176:Fact:=⟨91,[(.agg (.gen [(iN 0),(iN 12),(iN 10),(iN 30)]))],(iN 10),none⟩
theorem ZjF:q176.ok:=fct [] trivial (by kernel_rfl)
def q177:Fact:=⟨89,[(.agg (.gen [(iN 0),(iN 12),(iN 10),(iN 30)])),(iN 0)],(iN 120),none⟩
theorem Zxq:q177.ok:=fct [q176] ⟨ZjF,trivial⟩ (by kernel_rfl)
def q178:Fact:=⟨87,[(iN 120),(iN 100),(iN 120)],(.bool true),none⟩
theorem Zr3:q178.ok:=fct [] trivial (by kernel_rfl)
def q179:Fact:=⟨89,[(.agg (.gen [(iN 0),(iN 12),(iN 10),(iN 30)])),(iN 10)],(iN 300),none⟩
theorem Zwa:q179.ok:=fct [q176] ⟨ZjF,trivial⟩ (by kernel_rfl)
def q180:Fact:=⟨89,[(.agg (.gen [(iN 0),(iN 12),(iN 10),(iN 30)])),(iN 20)],(iN 480),none⟩
theorem ZyX:q180.ok:=fct [q176] ⟨ZjF,trivial⟩ (by kernel_rfl)
def q181:Fact:=⟨87,[(iN 480),(iN 500),(iN 510)],(.bool false),none⟩
theorem Zzj:q181.ok:=fct [] trivial (by kernel_rfl)
def q182:Fact:=⟨126,[(.agg (.gen [(iN 0),(iN 12),(iN 10),(iN 30)])),(.list (.big (.agg [(.int .i64),(.int .i64),(.int .i64)]) [(.agg (.gen [(iN 0),(iN 10),(iN 12)])),(.agg (.gen [(iN 10),(iN 30),(iN 32)])),(.agg (.gen [(iN 20),(iN 50),(iN 51)]))]))],(.bool false),none⟩
theorem Zw7:q182.ok:=fct [q177,q176,q178,q179,q162,q180,q181] ⟨Zxq,ZjF,Zr3,Zwa,ZmJ,ZyX,Zzj,trivial⟩ (by kernel_rfl)
def q183:Fact:=⟨91,[(.agg (.gen [(iN 0),(iN 12),(iN 10),(iN 32)]))],(iN 10),none⟩
theorem ZjR:q183.ok:=fct [] trivial (by kernel_rfl)
def q184:Fact:=⟨89,[(.agg (.gen [(iN 0),(iN 12),(iN 10),(iN 32)])),(iN 0)],(iN 120),none⟩
theorem ZxL:q184.ok:=fct [q183] ⟨ZjR,trivial⟩ (by kernel_rfl)
def q185:Fact:=⟨89,[(.agg (.gen [(iN 0),(iN 12),(iN 10),(iN 32)])),(iN 10)],(iN 320),none⟩
theorem Zxz:q185.ok:=fct [q183] ⟨ZjR,trivial⟩ (by kernel_rfl)
def q186:Fact:=⟨89,[(.agg (.gen [(iN 0),(iN 12),(iN 10),(iN 32)])),(iN 20)],(iN 520),none⟩
theorem ZyV:q186.ok:=fct [q183] ⟨ZjR,trivial⟩ (by kernel_rfl)
def q187:Fact:=⟨87,[(iN 520),(iN 500),(iN 510)],(.bool false),none⟩
theorem Zz3:q187.ok:=fct [] trivial (by kernel_rfl)
def q188:Fact:=⟨126,[(.agg (.gen [(iN 0),(iN 12),(iN 10),(iN 32)])),(.list (.big (.agg [(.int .i64),(.int .i64),(.int .i64)]) [(.agg (.gen [(iN 0),(iN 10),(iN 12)])),(.agg (.gen [(iN 10),(iN 30),(iN 32)])),(.agg (.gen [(iN 20),(iN 50),(iN 51)]))]))],(.bool false),none⟩
theorem Zx2:q188.ok:=fct [q184,q183,q178,q185,q172,q186,q187] ⟨ZxL,ZjR,Zr3,Zxz,Zpy,ZyV,Zz3,trivial⟩ (by kernel_rfl)
def q189:Fact:=⟨91,[(.agg (.gen [(iN 0),(iN 10),(iN 20),(iN 50)]))],(iN 20),none⟩
theorem ZfT:q189.ok:=fct [] trivial (by kernel_rfl)
def q190:Fact:=⟨89,[(.agg (.gen [(iN 0),(iN 10),(iN 20),(iN 50)])),(iN 0)],(iN 200),none⟩
theorem Zyh:q190.ok:=fct [q189] ⟨ZfT,trivial⟩ (by kernel_rfl)
def q191:Fact:=⟨87,[(iN 200),(iN 200),(iN 240)],(.bool true),none⟩
theorem Zpx:q191.ok:=fct [] trivial (by kernel_rfl)
def q192:Fact:=⟨89,[(.agg (.gen [(iN 0),(iN 10),(iN 20),(iN 50)])),(iN 10)],(iN 600),none⟩
theorem Zym:q192.ok:=fct [q189] ⟨ZfT,trivial⟩ (by kernel_rfl)
def q193:Fact:=⟨87,[(iN 600),(iN 600),(iN 640)],(.bool true),none⟩
theorem Zy0:q193.ok:=fct [] trivial (by kernel_rfl)
def q194:Fact:=⟨89,[(.agg (.gen [(iN 0),(iN 10),(iN 20),(iN 50)])),(iN 20)],(iN 1000),none⟩
theorem Zv5:q194.ok:=fct [q189] ⟨ZfT,trivial⟩ (by kernel_rfl)
def q195:Fact:=⟨87,[(iN 1000),(iN 1000),(iN 1020)],(.bool true),none⟩
theorem ZrJ:q195.ok:=fct [] trivial (by kernel_rfl)
def q196:Fact:=⟨126,[(.agg (.gen [(iN 0),(iN 10),(iN 20),(iN 50)])),(.list (.big (.agg [(.int .i64),(.int .i64),(.int .i64)]) [(.agg (.gen [(iN 0),(iN 10),(iN 12)])),(.agg (.gen [(iN 10),(iN 30),(iN 32)])),(.agg (.gen [(iN 20),(iN 50),(iN 51)]))]))],(.bool true),none⟩
theorem ZyD:q196.ok:=fct [q190,q189,q191,q192,q193,q194,q195] ⟨Zyh,ZfT,Zpx,Zym,Zy0,Zv5,ZrJ,trivial⟩ (by kernel_rfl)
def q197:Fact:=⟨89,[(.agg (.gen [(iN 0),(iN 10),(iN 20),(iN 50)])),(iN 30)],(iN 1400),none⟩
theorem ZAk:q197.ok:=fct [q189] ⟨ZfT,trivial⟩ (by kernel_rfl)
def q198:Fact:=⟨90,[(iN 1400),(iN 20)],(iN 70),none⟩
theorem ZwB:q198.ok:=fct [] trivial (by kernel_rfl)
def q199:Fact:=⟨90,[(iN (-1400)),(iN 20)],(iN (-70)),none⟩
theorem Zxx:q199.ok:=fct [] trivial (by kernel_rfl)
def q200:Fact:=⟨91,[(.agg (.gen [(iN 0),(iN 10),(iN 20),(iN 51)]))],(iN 20),none⟩
theorem Zf5:q200.ok:=fct [] trivial (by kernel_rfl)
def q201:Fact:=⟨89,[(.agg (.gen [(iN 0),(iN 10),(iN 20),(iN 51)])),(iN 0)],(iN 200),none⟩
theorem Zxc:q201.ok:=fct [q200] ⟨Zf5,trivial⟩ (by kernel_rfl)
def q202:Fact:=⟨89,[(.agg (.gen [(iN 0),(iN 10),(iN 20),(iN 51)])),(iN 10)],(iN 610),none⟩
theorem ZxA:q202.ok:=fct [q200] ⟨Zf5,trivial⟩ (by kernel_rfl)
def q203:Fact:=⟨87,[(iN 610),(iN 600),(iN 640)],(.bool true),none⟩
theorem Zzy:q203.ok:=fct [] trivial (by kernel_rfl)
def q204:Fact:=⟨89,[(.agg (.gen [(iN 0),(iN 10),(iN 20),(iN 51)])),(iN 20)],(iN 1020),none⟩
theorem Zys:q204.ok:=fct [q200] ⟨Zf5,trivial⟩ (by kernel_rfl)
def q205:Fact:=⟨87,[(iN 1020),(iN 1000),(iN 1020)],(.bool true),none⟩
theorem ZpW:q205.ok:=fct [] trivial (by kernel_rfl)
def q206:Fact:=⟨126,[(.agg (.gen [(iN 0),(iN 10),(iN 20),(iN 51)])),(.list (.big (.agg [(.int .i64),(.int .i64),(.int .i64)]) [(.agg (.gen [(iN 0),(iN 10),(iN 12)])),(.agg (.gen [(iN 10),(iN 30),(iN 32)])),(.agg (.gen [(iN 20),(iN 50),(iN 51)]))]))],(.bool true),none⟩
theorem Zwb:q206.ok:=fct [q201,q200,q191,q202,q203,q204,q205] ⟨Zxc,Zf5,Zpx,ZxA,Zzy,Zys,ZpW,trivial⟩ (by kernel_rfl)
def q207:Fact:=⟨89,[(.agg (.gen [(iN 0),(iN 10),(iN 20),(iN 51)])),(iN 30)],(iN 1430),none⟩
theorem Zw5:q207.ok:=fct [q200] ⟨Zf5,trivial⟩ (by kernel_rfl)
def q208:Fact:=⟨90,[(iN 1430),(iN 20)],(iN 71),none⟩
theorem ZzI:q208.ok:=fct [] trivial (by kernel_rfl)
def q209:Fact:=⟨90,[(iN (-1430)),(iN 20)],(iN (-72)),none⟩
theorem ZyO:q209.ok:=fct [] trivial (by kernel_rfl)
def q210:Fact:=⟨91,[(.agg (.gen [(iN 0),(iN 12),(iN 20),(iN 50)]))],(iN 20),none⟩
theorem Zf0:q210.ok:=fct [] trivial (by kernel_rfl)
def q211:Fact:=⟨89,[(.agg (.gen [(iN 0),(iN 12),(iN 20),(iN 50)])),(iN 0)],(iN 240),none⟩
theorem Zzc:q211.ok:=fct [q210] ⟨Zf0,trivial⟩ (by kernel_rfl)
def q212:Fact:=⟨87,[(iN 240),(iN 200),(iN 240)],(.bool true),none⟩
theorem Zrn:q212.ok:=fct [] trivial (by kernel_rfl)
def q213:Fact:=⟨89,[(.agg (.gen [(iN 0),(iN 12),(iN 20),(iN 50)])),(iN 10)],(iN 620),none⟩
theorem Zyw:q213.ok:=fct [q210] ⟨Zf0,trivial⟩ (by kernel_rfl)
def q214:Fact:=⟨87,[(iN 620),(iN 600),(iN 640)],(.bool true),none⟩
theorem ZyU:q214.ok:=fct [] trivial (by kernel_rfl)
def q215:Fact:=⟨89,[(.agg (.gen [(iN 0),(iN 12),(iN 20),(iN 50)])),(iN 20)],(iN 1000),none⟩
theorem ZxO:q215.ok:=fct [q210] ⟨Zf0,trivial⟩ (by kernel_rfl)
def q216:Fact:=⟨126,[(.agg (.gen [(iN 0),(iN 12),(iN 20),(iN 50)])),(.list (.big (.agg [(.int .i64),(.int .i64),(.int .i64)]) [(.agg (.gen [(iN 0),(iN 10),(iN 12)])),(.agg (.gen [(iN 10),(iN 30),(iN 32)])),(.agg (.gen [(iN 20),(iN 50),(iN 51)]))]))],(.bool true),none⟩
theorem ZAs:q216.ok:=fct [q211,q210,q212,q213,q214,q215,q195] ⟨Zzc,Zf0,Zrn,Zyw,ZyU,ZxO,ZrJ,trivial⟩ (by kernel_rfl)
def q217:Fact:=⟨89,[(.agg (.gen [(iN 0),(iN 12),(iN 20),(iN 50)])),(iN 30)],(iN 1380),none⟩
theorem Zwy:q217.ok:=fct [q210] ⟨Zf0,trivial⟩ (by kernel_rfl)
def q218:Fact:=⟨90,[(iN 1380),(iN 20)],(iN 69),none⟩
theorem ZzO:q218.ok:=fct [] trivial (by kernel_rfl)
def q219:Fact:=⟨90,[(iN (-1380)),(iN 20)],(iN (-69)),none⟩
theorem Zz1:q219.ok:=fct [] trivial (by kernel_rfl)
def q220:Fact:=⟨91,[(.agg (.gen [(iN 0),(iN 12),(iN 20),(iN 51)]))],(iN 20),none⟩
theorem Zgc:q220.ok:=fct [] trivial (by kernel_rfl)
def q221:Fact:=⟨89,[(.agg (.gen [(iN 0),(iN 12),(iN 20),(iN 51)])),(iN 0)],(iN 240),none⟩
theorem Zyj:q221.ok:=fct [q220] ⟨Zgc,trivial⟩ (by kernel_rfl)
def q222:Fact:=⟨89,[(.agg (.gen [(iN 0),(iN 12),(iN 20),(iN 51)])),(iN 10)],(iN 630),none⟩
theorem Zx7:q222.ok:=fct [q220] ⟨Zgc,trivial⟩ (by kernel_rfl)
def q223:Fact:=⟨87,[(iN 630),(iN 600),(iN 640)],(.bool true),none⟩
theorem ZyH:q223.ok:=fct [] trivial (by kernel_rfl)
def q224:Fact:=⟨89,[(.agg (.gen [(iN 0),(iN 12),(iN 20),(iN 51)])),(iN 20)],(iN 1020),none⟩
theorem Zw8:q224.ok:=fct [q220] ⟨Zgc,trivial⟩ (by kernel_rfl)
def q225:Fact:=⟨126,[(.agg (.gen [(iN 0),(iN 12),(iN 20),(iN 51)])),(.list (.big (.agg [(.int .i64),(.int .i64),(.int .i64)]) [(.agg (.gen [(iN 0),(iN 10),(iN 12)])),(.agg (.gen [(iN 10),(iN 30),(iN 32)])),(.agg (.gen [(iN 20),(iN 50),(iN 51)]))]))],(.bool true),none⟩
theorem ZAz:q225.ok:=fct [q221,q220,q212,q222,q223,q224,q205] ⟨Zyj,Zgc,Zrn,Zx7,ZyH,Zw8,ZpW,trivial⟩ (by kernel_rfl)
def q226:Fact:=⟨89,[(.agg (.gen [(iN 0),(iN 12),(iN 20),(iN 51)])),(iN 30)],(iN 1410),none⟩
theorem ZAa:q226.ok:=fct [q220] ⟨Zgc,trivial⟩ (by kernel_rfl)
def q227:Fact:=⟨90,[(iN 1410),(iN 20)],(iN 70),none⟩
theorem ZxK:q227.ok:=fct [] trivial (by kernel_rfl)
def q228:Fact:=⟨90,[(iN (-1410)),(iN 20)],(iN (-71)),none⟩
theorem ZyN:q228.ok:=fct [] trivial (by kernel_rfl)
def q229:Fact:=⟨91,[(.agg (.gen [(iN 10),(iN 30),(iN 20),(iN 50)]))],(iN 10),none⟩
theorem ZfQ:q229.ok:=fct [] trivial (by kernel_rfl)
def q230:Fact:=⟨89,[(.agg (.gen [(iN 10),(iN 30),(iN 20),(iN 50)])),(iN 0)],(iN 100),none⟩
theorem Zyx:q230.ok:=fct [q229] ⟨ZfQ,trivial⟩ (by kernel_rfl)
def q231:Fact:=⟨89,[(.agg (.gen [(iN 10),(iN 30),(iN 20),(iN 50)])),(iN 10)],(iN 300),none⟩
theorem Zx1:q231.ok:=fct [q229] ⟨ZfQ,trivial⟩ (by kernel_rfl)
def q232:Fact:=⟨89,[(.agg (.gen [(iN 10),(iN 30),(iN 20),(iN 50)])),(iN 20)],(iN 500),none⟩
theorem ZyI:q232.ok:=fct [q229] ⟨ZfQ,trivial⟩ (by kernel_rfl)
def q233:Fact:=⟨126,[(.agg (.gen [(iN 10),(iN 30),(iN 20),(iN 50)])),(.list (.big (.agg [(.int .i64),(.int .i64),(.int .i64)]) [(.agg (.gen [(iN 0),(iN 10),(iN 12)])),(.agg (.gen [(iN 10),(iN 30),(iN 32)])),(.agg (.gen [(iN 20),(iN 50),(iN 51)]))]))],(.bool true),none⟩
theorem ZzE:q233.ok:=fct [q230,q229,q160,q231,q162,q232,q164] ⟨Zyx,ZfQ,Zmx,Zx1,ZmJ,ZyI,Zry,trivial⟩ (by kernel_rfl)
def q234:Fact:=⟨89,[(.agg (.gen [(iN 10),(iN 30),(iN 20),(iN 50)])),(iN 30)],(iN 700),none⟩
theorem Zxu:q234.ok:=fct [q229] ⟨ZfQ,trivial⟩ (by kernel_rfl)
def q235:Fact:=⟨91,[(.agg (.gen [(iN 10),(iN 30),(iN 20),(iN 51)]))],(iN 10),none⟩
theorem Zrt:q235.ok:=fct [] trivial (by kernel_rfl)
def q236:Fact:=⟨89,[(.agg (.gen [(iN 10),(iN 30),(iN 20),(iN 51)])),(iN 0)],(iN 90),none⟩
theorem Zyr:q236.ok:=fct [q235] ⟨Zrt,trivial⟩ (by kernel_rfl)
def q237:Fact:=⟨87,[(iN 90),(iN 100),(iN 120)],(.bool false),none⟩
theorem Zxi:q237.ok:=fct [] trivial (by kernel_rfl)
def q238:Fact:=⟨126,[(.agg (.gen [(iN 10),(iN 30),(iN 20),(iN 51)])),(.list (.big (.agg [(.int .i64),(.int .i64),(.int .i64)]) [(.agg (.gen [(iN 0),(iN 10),(iN 12)])),(.agg (.gen [(iN 10),(iN 30),(iN 32)])),(.agg (.gen [(iN 20),(iN 50),(iN 51)]))]))],(.bool false),none⟩
theorem Zxm:q238.ok:=fct [q236,q235,q237] ⟨Zyr,Zrt,Zxi,trivial⟩ (by kernel_rfl)
def q239:Fact:=⟨91,[(.agg (.gen [(iN 10),(iN 32),(iN 20),(iN 50)]))],(iN 10),none⟩
theorem Zqw:q239.ok:=fct [] trivial (by kernel_rfl)
def q240:Fact:=⟨89,[(.agg (.gen [(iN 10),(iN 32),(iN 20),(iN 50)])),(iN 0)],(iN 140),none⟩
theorem ZAp:q240.ok:=fct [q239] ⟨Zqw,trivial⟩ (by kernel_rfl)
def q241:Fact:=⟨87,[(iN 140),(iN 100),(iN 120)],(.bool false),none⟩
theorem ZzW:q241.ok:=fct [] trivial (by kernel_rfl)
def q242:Fact:=⟨126,[(.agg (.gen [(iN 10),(iN 32),(iN 20),(iN 50)])),(.list (.big (.agg [(.int .i64),(.int .i64),(.int .i64)]) [(.agg (.gen [(iN 0),(iN 10),(iN 12)])),(.agg (.gen [(iN 10),(iN 30),(iN 32)])),(.agg (.gen [(iN 20),(iN 50),(iN 51)]))]))],(.bool false),none⟩
theorem Zyu:q242.ok:=fct [q240,q239,q241] ⟨ZAp,Zqw,ZzW,trivial⟩ (by kernel_rfl)
def q243:Fact:=⟨91,[(.agg (.gen [(iN 10),(iN 32),(iN 20),(iN 51)]))],(iN 10),none⟩
theorem Zqk:q243.ok:=fct [] trivial (by kernel_rfl)
def q244:Fact:=⟨89,[(.agg (.gen [(iN 10),(iN 32),(iN 20),(iN 51)])),(iN 0)],(iN 130),none⟩
theorem ZAm:q244.ok:=fct [q243] ⟨Zqk,trivial⟩ (by kernel_rfl)
def q245:Fact:=⟨87,[(iN 130),(iN 100),(iN 120)],(.bool false),none⟩
theorem ZAj:q245.ok:=fct [] trivial (by kernel_rfl)
def q246:Fact:=⟨126,[(.agg (.gen [(iN 10),(iN 32),(iN 20),(iN 51)])),(.list (.big (.agg [(.int .i64),(.int .i64),(.int .i64)]) [(.agg (.gen [(iN 0),(iN 10),(iN 12)])),(.agg (.gen [(iN 10),(iN 30),(iN 32)])),(.agg (.gen [(iN 20),(iN 50),(iN 51)]))]))],(.bool false),none⟩
theorem ZyL:q246.ok:=fct [q244,q243,q245] ⟨ZAm,Zqk,ZAj,trivial⟩ (by kernel_rfl)
def q247:Fact:=⟨23,[(.list (.big (.agg [(.int .i64),(.int .i64),(.int .i64)]) [(.agg (.gen [(iN 0),(iN 10),(iN 12)])),(.agg (.gen [(iN 10),(iN 30),(iN 32)])),(.agg (.gen [(iN 20),(iN 50),(iN 51)]))])),(iN 30)],(.tup [(.agg (.gen [(iN 69),(iN 72)])),(iN 0)]),none⟩
theorem ZyF:q247.ok:=fct [q153,q157,q4,q32,q165,q166,q158,q167,q168,q175,q182,q188,q196,q197,q189,q198,q199,q206,q207,q200,q208,q209,q216,q217,q210,q218,q219,q225,q226,q220,q227,q228,q233,q234,q229,q238,q242,q246] ⟨Zrc,Zyb,ZfG,Zld,Zzf,Zxn,Zf6,ZwL,Zzi,Zy1,Zw7,Zx2,ZyD,ZAk,ZfT,ZwB,Zxx,Zwb,Zw5,Zf5,ZzI,ZyO,ZAs,Zwy,Zf0,ZzO,Zz1,ZAz,ZAa,Zgc,ZxK,ZyN,ZzE,Zxu,ZfQ,Zxm,Zyu,ZyL,trivial⟩ (by kernel_rfl)
def q248:Fact:=⟨67,[(.list (.ints .i64 [3,255,0,0])),(.list (.ints .i64 [3,255,0,0]))],(.bool true),none⟩
theorem Zzl:q248.ok:=fct [] trivial (by kernel_rfl)
def q249:Fact:=⟨67,[(.list (.ints .i64 [1,2])),(.list (.ints .i64 [1,2]))],(.bool true),none⟩
theorem Zwe:q249.ok:=fct [] trivial (by kernel_rfl)
def q250:Fact:=⟨81,[(.agg (.gen [(iN 9),(iN 0),(.list (.ints .i64 [1,2]))])),(.agg (.gen [(iN 9),(iN 0),(.list (.ints .i64 [1,2]))]))],(.bool true),none⟩
theorem ZAi:q250.ok:=fct [q249] ⟨Zwe,trivial⟩ (by kernel_rfl)
def q251:Fact:=⟨67,[(.list (.ints .i64 [3])),(.list (.ints .i64 [3]))],(.bool true),none⟩
theorem ZAb:q251.ok:=fct [] trivial (by kernel_rfl)
def q252:Fact:=⟨81,[(.agg (.gen [(iN 9),(iN 1),(.list (.ints .i64 [3]))])),(.agg (.gen [(iN 9),(iN 1),(.list (.ints .i64 [3]))]))],(.bool true),none⟩
theorem Zwo:q252.ok:=fct [q251] ⟨ZAb,trivial⟩ (by kernel_rfl)
def q253:Fact:=⟨21,[(.list (.gen [(.agg (.gen [(iN 9),(iN 0),(.list (.ints .i64 [1,2]))])),(.agg (.gen [(iN 9),(iN 1),(.list (.ints .i64 [3]))]))])),(.list (.gen [(.agg (.gen [(iN 9),(iN 0),(.list (.ints .i64 [1,2]))])),(.agg (.gen [(iN 9),(iN 1),(.list (.ints .i64 [3]))]))]))],(.bool true),none⟩
theorem Zy7:q253.ok:=fct [q250,q252] ⟨ZAi,Zwo,trivial⟩ (by kernel_rfl)
def q254:Fact:=⟨14,[],(.bool true),none⟩
theorem Zx5:q254.ok:=fct [q22,q23,q24,q68,q75,q116,q94,q105,q101,q104,q102,q103,q106,q108,q109,q110,q112,q113,q114,q115,q122,q156,q247,q248,q253] ⟨ZFh,ZGy,ZCv,ZE7,ZBB,ZzC,ZtX,ZrP,ZpY,ZqB,Zma,Zl1,ZpF,Zq8,ZpS,ZpG,ZqO,ZpK,ZrQ,Zrq,Zzv,ZwE,ZyF,Zzl,Zy7,trivial⟩ (by kernel_rfl)
end Go.Proofs.Ytjhdnpmojhkbjaa
/- Paths of functions, printed by the explorer (Gx). No condition. -/
namespace Go.Proofs.Ytjhdnpmojhkbjaa
set_option maxRecDepth 100000
set_option linter.unusedVariables false
def ZA3(a:Int)(b:Int):AFrame:={ fn:=18,N:=13,env:=[(0,AV.agg (Row.gen [AV.int .i64 a,AV.int .i64 b]))],todo:=[.code a18.code],defs:=[],rnd:=none,ret:=false,res:=[ARes.tmp 2] }
def ZJX(a:Int)(b:Int):List AFrame:=[(ZA3 a b)]
theorem Zwh(a:Int)(b:Int):Zam tab 18 [AV.agg (Row.gen [AV.int .i64 a,AV.int .i64 b])]=some (ZA3 a b):=rfl
theorem ZIN(A:Ar)(a b:Int):ZaE A tab B1 26 [true,true,true,true,true,true] 18 (ZJX a b) []=
 some (tr [12,7] [A.not (decide (4≤a∧a≤24))],
  AV.int .i64 2,none):=by kernel_rfl
theorem ZH5(A:Ar)(a b:Int):ZaE A tab B1 26 [false,false,false,false,false,true] 18 (ZJX a b) []=
 some (tr [2,9,7] [A.not (decide (1≤b∧b≤4)),!A.not (decide (4≤a∧a≤24))],
  AV.int .i64 2,none):=by kernel_rfl
theorem ZIB(A:Ar)(a b:Int):ZaE A tab B1 27 [false,false,false,false,false,false] 18 (ZJX a b) []=
 some (tr [2,9,7] [!A.not (decide (1≤b∧b≤4)),!A.not (decide (4≤a∧a≤24))],
  AV.int .i64 0,none):=by kernel_rfl
def ZGd(a:Int)(b:Int)(n:Int):AFrame:={ fn:=19,N:=11,env:=[(0,AV.agg (Row.gen [AV.int .i64 a,AV.int .i64 b])),(1,AV.int .i64 n)],todo:=[.code a19.code],defs:=[],rnd:=none,ret:=false,res:=[ARes.tmp 4] }
def ZLs(a:Int)(b:Int)(n:Int):List AFrame:=[(ZGd a b n)]
theorem Zye(a:Int)(b:Int)(n:Int):Zam tab 19 [AV.agg (Row.gen [AV.int .i64 a,AV.int .i64 b]),AV.int .i64 n]=some (ZGd a b n):=rfl
theorem ZK3(A:Ar)(a b n:Int):ZaE A tab B1 21 [true] 19 (ZLs a b n) []=
 some (tr [2,2,5] [A.not (decide (0≤n∧n≤A.sub b 1)),A.inR .i64 (A.sub b 1)],
  AV.int .i64 6,none):=by kernel_rfl
theorem ZIl(A:Ar)(a b n:Int):ZaE A tab B1 22 [false] 19 (ZLs a b n) []=
 some (tr [2,2,5] [!A.not (decide (0≤n∧n≤A.sub b 1)),A.inR .i64 (A.sub b 1)],
  AV.int .i64 0,none):=by kernel_rfl
def ZCx(a:Int)(b:Int):AFrame:={ fn:=63,N:=12,env:=[(0,AV.agg (Row.gen [AV.int .i64 a,AV.int .i64 b]))],todo:=[.code a63.code],defs:=[],rnd:=none,ret:=false,res:=[ARes.tmp 2] }
def ZLl(a:Int)(b:Int):List AFrame:=[(ZCx a b)]
theorem Zxy(a:Int)(b:Int):Zam tab 63 [AV.agg (Row.gen [AV.int .i64 a,AV.int .i64 b])]=some (ZCx a b):=rfl
theorem ZKM(A:Ar)(a b:Int):ZaE A tab B1 20 [true,true,true,true] 63 (ZLl a b) []=
 some (tr [10,6] [decide (4≤a∧a≤24)],
  AV.int .i64 (Zak (decide (1≤b∧b≤4)) 2),none):=by kernel_rfl
theorem ZKs(A:Ar)(a b:Int):ZaE A tab B1 20 [false,false,false,false] 63 (ZLl a b) []=
 some (tr [10,6] [!decide (4≤a∧a≤24)],
  AV.int .i64 2,none):=by kernel_rfl
def ZvT(a:Int)(b:Int)(n:Int):AFrame:={ fn:=131,N:=12,env:=[(0,AV.agg (Row.gen [AV.int .i64 a,AV.int .i64 b])),(1,AV.int .i64 n)],todo:=[.code a131.code],defs:=[],rnd:=none,ret:=false,res:=[ARes.tmp 4] }
def ZJ2(a:Int)(b:Int)(n:Int):List AFrame:=[(ZvT a b n)]
theorem Zti(a:Int)(b:Int)(n:Int):Zam tab 131 [AV.agg (Row.gen [AV.int .i64 a,AV.int .i64 b]),AV.int .i64 n]=some (ZvT a b n):=rfl
theorem ZAO(A:Ar)(a b n:Int):ZaE A tab B1 18 [] 131 (ZJ2 a b n) []=
 some (tr [11] [],
  AV.int .i64 (Zak (decide (0≤n∧n≤Go.IntKind.wrap .i64 (A.sub b 1))) 6),none):=by kernel_rfl
def ZFP(xs:List Int):AFrame:={ fn:=94,N:=5,env:=[(0,AV.list (.ints .i64 xs))],todo:=[.code a94.code],defs:=[],rnd:=none,ret:=false,res:=[ARes.tmp 2] }
def ZMi(xs:List Int):List AFrame:=[(ZFP xs)]
theorem Zxe(xs:List Int):Zam tab 94 [AV.list (.ints .i64 xs)]=some (ZFP xs):=rfl
theorem ZKY(A:Ar)(xs:List Int):ZaE A tab B1 11 [] 94 (ZMi xs) []=
 some (tr [2,2] [decide (List.length xs≤1000000)],
  AV.int .i64 (ZaF xs),none):=by kernel_rfl
def ZvO(xs:List AV):AFrame:={ fn:=113,N:=36,env:=[(0,AV.list (Row.big (Sh.ints .i64) xs))],todo:=[.code a113.code],defs:=[],rnd:=none,ret:=false,res:=[ARes.tmp 2] }
def ZI7(xs:List AV):List AFrame:=[(ZvO xs)]
theorem Ztw(xs:List AV):Zam tab 113 [AV.list (Row.big (Sh.ints .i64) xs)]=some (ZvO xs):=rfl
def Zfa(xs:List AV)(n0 n1 n2:Int):List AFrame:=[{ fn:=113,N:=36,env:=[(0,AV.list (Row.big (Sh.ints .i64) xs)),(3,AV.int .i64 n1),(9,AV.list (Row.big (Sh.ints .i64) xs)),(10,AV.int .i64 n0),(11,AV.int .i64 n2)],todo:=.code (ACode.gh [] ZuC)::ZBa,defs:=[],rnd:=none,ret:=false,res:=[ARes.tmp 2] }]
def Zd8(xs:List AV)(n0:Int)(n1:Int)(n2:Int):Zaa:=[]
abbrev ZgN(xs:List AV)(n0:Int)(n1:Int)(n2:Int):List AFrame×Zaa:=(Zfa xs n0 n1 n2,Zd8 xs n0 n1 n2)
def Ze5(xs:List AV)(j3:Nat)(n4:Int)(l5:List Int)(n6:Int):List AFrame:=[{ fn:=113,N:=36,env:=[(6,AV.slc 136023 0 0 j3 none),(25,AV.list (Row.big (Sh.ints .i64) xs)),(26,AV.int .i64 n4),(27,AV.int .i64 n6)],todo:=.code (ACode.gh [] Zu9)::ZCC,defs:=[],rnd:=none,ret:=false,res:=[ARes.tmp 2] }]
def ZdX(xs:List AV)(j3:Nat)(n4:Int)(l5:List Int)(n6:Int):Zaa:=[(136023,{ base:=0,blks:=[Blk.row 3 1 (.ints .i64 l5)] })]
abbrev Zgy(xs:List AV)(j3:Nat)(n4:Int)(l5:List Int)(n6:Int):List AFrame×Zaa:=(Ze5 xs j3 n4 l5 n6,ZdX xs j3 n4 l5 n6)
theorem ZCP(A:Ar)(xs:List AV):Zad A tab B1 18 [] (ZI7 xs) []=
 some (tr [5] [],
  ZgN (xs) (A.int (A.lenA xs)) (0) (0)):=by kernel_rfl
theorem Zuj(A:Ar)(xs:List AV)(n0 n1 n2:Int):Zad A tab B1 38 [true,false] (Zfa xs n0 n1 n2) (Zd8 xs n0 n1 n2)=
 some (tr [1,0,3,5,0,1] [A.inR .i64 (A.add n2 1),!A.lt (A.add n1 (A.int (A.len (AV.toIs (A.nthA xs (A.nat n2)))))) 0,A.inR .i64 (A.add n1 (A.int (A.len (AV.toIs (A.nthA xs (A.nat n2)))))),Zab (Zab (A.le 0 n2) (Nat.blt (A.nat n2) (A.lenA xs))) true,A.lt n2 n0],
  ZgN (xs) (n0) (A.add n1 (A.int (A.len (AV.toIs (A.nthA xs (A.nat n2)))))) (A.add n2 1)):=by kernel_rfl
theorem ZBp(A:Ar)(xs:List AV)(n0 n1 n2:Int):Zad A tab B1 74 [false,false,true] (Zfa xs n0 n1 n2) (Zd8 xs n0 n1 n2)=
 some (tr [8,2,1,3,3,0,5,4,1] [Zab (A.le 0 (A.int 0)) (Zab (Zab (Nat.ble 0 (A.nat (A.int 0))) (Nat.ble (A.nat (A.int 0)) (A.len (A.rep (A.nat (A.sub n1 (A.sub 0 (A.int 0)))) 0)))) true),Zab (A.lt 0 (A.sub n1 (A.sub 0 (A.int 0)))) (A.le (A.sub n1 (A.sub 0 (A.int 0))) 4294967296),Zab (A.le 0 0) (Zab (Zab (Nat.ble 0 (A.nat 0)) (Nat.ble (A.nat 0) 0)) true),A.lt 0 (A.sub n1 (A.sub 0 (A.int 0))),A.inR .i64 (A.sub n1 (A.sub 0 (A.int 0))),A.inR .i64 (A.sub 0 (A.int 0)),!A.lt n1 0,!A.lt n2 n0],
  Zgy (xs) (A.nat (A.int 0)-0) (A.int (A.lenA xs)) (A.rep (A.nat (A.sub n1 (A.sub 0 (A.int 0)))) 0) (0)):=by kernel_rfl
theorem Zu5(A:Ar)(xs:List AV)(j3:Nat)(n4:Int)(l5:List Int)(n6:Int):Zad A tab B1 29 [true] (Ze5 xs j3 n4 l5 n6) (ZdX xs j3 n4 l5 n6)=
 some (tr [1,1,4,0,1] [A.inR .i64 (A.add n6 1),Nat.ble (j3+A.len (AV.toIs (A.nthA xs (A.nat n6)))) (A.len l5),Zab (Zab (A.le 0 n6) (Nat.blt (A.nat n6) (A.lenA xs))) true,A.lt n6 n4],
  Zgy (xs) (j3+A.len (AV.toIs (A.nthA xs (A.nat n6)))) (n4) (A.app (A.app (A.sub3 l5 0 j3) (AV.toIs (A.nthA xs (A.nat n6)))) (A.sub3 l5 (j3+A.len (AV.toIs (A.nthA xs (A.nat n6)))) (A.len l5))) (A.add n6 1)):=by kernel_rfl
theorem ZG6(A:Ar)(xs:List AV)(j3:Nat)(n4:Int)(l5:List Int)(n6:Int):ZaE A tab B1 14 [false] 113 (Ze5 xs j3 n4 l5 n6) (ZdX xs j3 n4 l5 n6)=
 some (tr [0,2,1] [Zab (Nat.beq j3 (A.len l5)) true,!A.lt n6 n4],
  AV.row 0 0,some { e:=3,sz:=1,r:=.ints .i64 l5 }):=by kernel_rfl
def ZCO(c:Int)(n:Int)(f:Int)(ds:List Int):AFrame:={ fn:=40,N:=8,env:=[(0,AV.agg (Row.gen [AV.int .i64 c,AV.int .i64 n,AV.int .i64 f,AV.list (.ints .i64 ds)]))],todo:=[.code a40.code],defs:=[],rnd:=none,ret:=false,res:=[ARes.cell 2 true 4] }
def ZNV(c:Int)(n:Int)(f:Int)(ds:List Int):List AFrame:=[(ZCO c n f ds)]
theorem ZyQ(c:Int)(n:Int)(f:Int)(ds:List Int):Zam tab 40 [AV.agg (Row.gen [AV.int .i64 c,AV.int .i64 n,AV.int .i64 f,AV.list (.ints .i64 ds)])]=some (ZCO c n f ds):=rfl
theorem ZJL(A:Ar)(c n f:Int)(ds:List Int):ZaE A tab B1 19 [] 40 (ZNV c n f ds) []=
 some (tr [5,4] [decide (List.length ds≤4294967296)],
  AV.agg (Row.gen [.int .i64 c, .int .i64 n, .int .i64 f, .list (.ints .i64 ds)]),none):=by kernel_rfl
def Zup(n:Int):AFrame:={ fn:=100,N:=5,env:=[(0,AV.int .i64 n)],todo:=[.code a100.code],defs:=[],rnd:=none,ret:=false,res:=[ARes.tmp 2] }
def ZHW(n:Int):List AFrame:=[(Zup n)]
theorem Zs9(n:Int):Zam tab 100 [AV.int .i64 n]=some (Zup n):=rfl
theorem ZBk(A:Ar)(n:Int):ZaE A tab B1 11 [] 100 (ZHW n) []=
 some (tr [5] [],
  AV.bool (decide (0≤n∧n≤63)),none):=by kernel_rfl
def ZCs(n:Int):AFrame:={ fn:=93,N:=5,env:=[(0,AV.int .i64 n)],todo:=[.code a93.code],defs:=[],rnd:=none,ret:=false,res:=[ARes.tmp 2] }
def ZMZ(n:Int):List AFrame:=[(ZCs n)]
theorem Zwm(n:Int):Zam tab 93 [AV.int .i64 n]=some (ZCs n):=rfl
theorem ZIn(A:Ar)(n:Int):ZaE A tab B1 11 [] 93 (ZMZ n) []=
 some (tr [5] [],
  AV.bool (decide (0≤n∧n≤255)),none):=by kernel_rfl
end Go.Proofs.Ytjhdnpmojhkbjaa
/- Contracts as a list. No condition. -/
namespace Go.Proofs.Ytjhdnpmojhkbjaa
def wr(n:Int):Int:=Go.IntKind.wrap .i64 n
theorem ZEK{n:Int}(h: -9223372036854775808≤n∧n≤9223372036854775807):wr n=n:=ZcX (k:=.i64) (by rw[Zv9];exact decide_eq_true h)
def ZbK(a b:Int):Bool:=decide ((4≤a∧a≤24)∧1≤b∧b≤4)
def Zao(a b:Int):Int:=if ZbK a b=true then 0 else 2
def Zby(b n:Int):Int:=if 0≤n∧n≤b-1 then 0 else 6
def ZaP(b n:Int):Int:=if 0≤n∧n≤wr (b-1)then 0 else 6
theorem Zpb(a b:Int):ZaK Try.prog 18 [.agg (.gen [.int .i64 a, .int .i64 b])] (.int .i64 (Zao a b)) none:=
 start (Zwh a b) fun C hC=>by
  by_cases h1:4≤a∧a≤24
  ·by_cases h2:1≤b∧b≤4
   ·exact fin hC Zda (ZIB std a b) (by simp[h1,h2]) (by simp[Zao,ZbK,h1,h2]) rfl
   ·exact fin hC Zda (ZH5 std a b) (by simp[h1];omega) (by simp[Zao,ZbK,h2]) rfl
  ·exact fin hC Zda (ZIN std a b) (by simp;omega) (by simp[Zao,ZbK,h1]) rfl
theorem Zpg(a b:Int):ZaK Try.prog 63 [.agg (.gen [.int .i64 a, .int .i64 b])] (.int .i64 (Zao a b)) none:=
 start (Zxy a b) fun C hC=>by
  by_cases h1:4≤a∧a≤24
  ·exact fin hC Zda (ZKM std a b) (by simp[h1]) (by by_cases h2:1≤b∧b≤4<;>simp[Zao,ZbK,h1,h2,Zak]) rfl
  ·exact fin hC Zda (ZKs std a b) (by simp;omega) (by simp[Zao,ZbK,h1]) rfl
theorem Zpr(a b n:Int)(h: -1000000≤b∧b≤1000000):ZaK Try.prog 19 [.agg (.gen [.int .i64 a, .int .i64 b]), .int .i64 n] (.int .i64 (Zby b n)) none:=
 start (Zye a b n) fun C hC=>by
  by_cases h1:0≤n∧n≤b-1
  ·exact fin hC Zda (ZIl std a b n) (by simp[h1.1];omega) (by rw[Zby,if_pos h1]) rfl
  ·exact fin hC Zda (ZK3 std a b n) (by simp;exact⟨decide_eq_false h1,by omega,by omega⟩) (by rw[Zby,if_neg h1]) rfl
theorem Zpf(a b n:Int):ZaK Try.prog 131 [.agg (.gen [.int .i64 a, .int .i64 b]), .int .i64 n] (.int .i64 (ZaP b n)) none:=
 start (Zti a b n) fun C hC=>fin hC Zda (ZAO std a b n) (by simp) (by
  show AV.int .i64 (Zak (decide (0≤n∧n≤wr (b-1))) 6)=_
  by_cases h:0≤n∧n≤wr (b-1)<;>simp[ZaP,Zak,h]) rfl
theorem ZoS(xs:List Int)(h:xs.length≤1000000):ZaK Try.prog 94 [.list (.ints .i64 xs)] (.int .i64 (ZaF xs)) none:=
 start (Zxe xs) fun C hC=>fin hC Zda (ZKY std xs) (by simp[h]) rfl rfl
theorem Zpd(x y:AV)(a b:List Int)(hx:x.toIs=a)(hy:y.toIs=b)(h:0<a.length+b.length∧a.length+b.length≤1000000):ZaK Try.prog 113 [.list (.big (.ints .i64) [x,y])] (.row 0 0) (some ⟨3,1, .ints .i64 (a++b)⟩):=
 start (Ztw [x,y]) fun C hC=>by
  refine go hC Zda (ZCP std [x,y]) (by simp) ?_
  refine go hC Zda (Zuj std [x,y] _ _ _) (by simp[hx];omega) ?_
  refine go hC Zda (Zuj std [x,y] _ _ _) (by simp[hx,hy];omega) ?_
  refine go hC Zda (ZBp std [x,y] _ _ _) (by simp[hx,hy];omega) ?_
  refine go hC Zda (Zu5 std [x,y] _ _ _ _) (by simp[hx,hy];omega) ?_
  refine go hC Zda (Zu5 std [x,y] _ _ _ _) (by simp[hx,hy];omega) ?_
  refine fin hC Zda (ZG6 std [x,y] _ _ _ _) (by simp[hx,hy];omega) rfl ?_
  simp[hx,hy]
  omega
theorem Zid(a b:List Int)(h:0<a.length+b.length∧a.length+b.length≤1000000):ZaK Try.prog 113 [.list (.gen [.list (.ints .i64 a), .list (.ints .i64 b)])] (.list (.ints .i64 (a++b))) Znf:=by
 have:=Zj8 (Zpd (.list (.ints .i64 a)) (.list (.ints .i64 b)) a b rfl rfl h) rfl rfl
 exact ZjS (xs:=[]) (ys:=[]) this rfl
theorem ZrW(c n f:Int)(ds:List Int)(h:ds.length≤4294967296):ZaK Try.prog 40 [.agg (.gen [.int .i64 c, .int .i64 n, .int .i64 f, .list (.ints .i64 ds)])] (.agg (.gen [.int .i64 c, .int .i64 n, .int .i64 f, .list (.ints .i64 ds)])) none:=
 start (ZyQ c n f ds) fun C hC=>fin hC Zda (ZJL std c n f ds) (by simp[h]) rfl rfl
theorem ZlU(n:Int):ZaK Try.prog 100 [.int .i64 n] (.bool (decide (0≤n∧n≤63))) none:=
 start (Zs9 n) fun C hC=>fin hC Zda (ZBk std n) (by simp) rfl rfl
theorem Zrf(n:Int):ZaK Try.prog 93 [.int .i64 n] (.bool (ZeP n)) none:=
 start (Zwm n) fun C hC=>fin hC Zda (ZIn std n) (by simp) rfl rfl
def k100:Ctr:=⟨100,0,fun _ a=>match a with |[.int .i64 n]=>some (true, .bool (decide (0≤n∧n≤63)),none) |_=>none⟩
theorem ZyB:k100.OK Try.prog:=fun pa args r fr h=>by
 simp only[k100]at h
 split at h
 ·cases h
  exact ZlU _
 ·cases h
def k93:Ctr:=⟨93,0,fun _ a=>match a with |[.int .i64 n]=>some (true, .bool (ZeP n),none) |_=>none⟩
theorem ZGu:k93.OK Try.prog:=fun pa args r fr h=>by
 simp only[k93]at h
 split at h
 ·cases h
  exact Zrf _
 ·cases h
def k18:Ctr:=⟨18,0,fun _ a=>match a with |[.agg (.gen [.int .i64 a, .int .i64 b])]=>some (true, .int .i64 (Zao a b),none) |_=>none⟩
theorem ZBQ:k18.OK Try.prog:=fun pa args r fr h=>by
 simp only[k18]at h
 split at h
 ·cases h
  exact Zpb _ _
 ·cases h
def k63:Ctr:=⟨63,0,fun _ a=>match a with |[.agg (.gen [.int .i64 a, .int .i64 b])]=>some (true, .int .i64 (Zao a b),none) |_=>none⟩
theorem ZCd:k63.OK Try.prog:=fun pa args r fr h=>by
 simp only[k63]at h
 split at h
 ·cases h
  exact Zpg _ _
 ·cases h
def k19:Ctr:=⟨19,0,fun _ a=>match a with |[.agg (.gen [.int .i64 a, .int .i64 b]), .int .i64 n]=>some (decide (-1000000≤b∧b≤1000000), .int .i64 (Zby b n),none) |_=>none⟩
theorem ZGb:k19.OK Try.prog:=fun pa args r fr h=>by
 simp only[k19]at h
 split at h
 ·simp only[Option.some.injEq,Prod.mk.injEq,decide_eq_true_eq]at h
  obtain⟨h0,rfl,rfl⟩:=h
  exact Zpr _ _ _ h0
 ·cases h
def k131:Ctr:=⟨131,0,fun _ a=>match a with |[.agg (.gen [.int .i64 a, .int .i64 b]), .int .i64 n]=>some (true, .int .i64 (ZaP b n),none) |_=>none⟩
theorem ZwQ:k131.OK Try.prog:=fun pa args r fr h=>by
 simp only[k131]at h
 split at h
 ·cases h
  exact Zpf _ _ _
 ·cases h
def k94:Ctr:=⟨94,0,fun _ a=>match a with |[.list (.ints .i64 xs)]=>some (decide (xs.length≤1000000), .int .i64 (ZaF xs),none) |_=>none⟩
theorem ZCg:k94.OK Try.prog:=fun pa args r fr h=>by
 simp only[k94]at h
 split at h
 ·simp only[Option.some.injEq,Prod.mk.injEq,decide_eq_true_eq]at h
  obtain⟨h0,rfl,rfl⟩:=h
  exact ZoS _ h0
 ·cases h
def k113:Ctr:=⟨113,0,fun _ a=>match a with |[.list (.gen [.list (.ints .i64 a), .list (.ints .i64 b)])]=>some (decide (0<a.length+b.length∧a.length+b.length≤1000000), .list (.ints .i64 (a++b)),Znf) |_=>none⟩
theorem ZzA:k113.OK Try.prog:=fun pa args r fr h=>by
 simp only[k113]at h
 split at h
 ·simp only[Option.some.injEq,Prod.mk.injEq,decide_eq_true_eq]at h
  obtain⟨h0,rfl,rfl⟩:=h
  exact Zid _ _ h0
 ·cases h
def k40:Ctr:=⟨40,0,fun _ a=>match a with |[.agg (.gen [.int .i64 c, .int .i64 n, .int .i64 f, .list (.ints .i64 ds)])]=>some (decide (ds.length≤4294967296), .agg (.gen [.int .i64 c, .int .i64 n, .int .i64 f, .list (.ints .i64 ds)]),none) |_=>none⟩
theorem ZEj:k40.OK Try.prog:=fun pa args r fr h=>by
 simp only[k40]at h
 split at h
 ·simp only[Option.some.injEq,Prod.mk.injEq,decide_eq_true_eq]at h
  obtain⟨h0,rfl,rfl⟩:=h
  exact ZrW _ _ _ _ h0
 ·cases h
def B2:List Ctr:=[k100,k93,k18,k63,k19,k131,k94,k113,k40]++B1
theorem Zh2:Zap Try.prog B2:=⟨ZyB,⟨ZGu,⟨ZBQ,⟨ZCd,⟨ZGb,⟨ZwQ,⟨ZCg,⟨ZzA,⟨ZEj,Zda⟩⟩⟩⟩⟩⟩⟩⟩⟩
end Go.Proofs.Ytjhdnpmojhkbjaa
/- Paths of functions, printed by the explorer (Gx). No condition. -/
namespace Go.Proofs.Ytjhdnpmojhkbjaa
set_option maxRecDepth 100000
set_option linter.unusedVariables false
def ZGS(a:Int)(b:Int)(c:Int)(n:Int)(f:Int)(ds:List Int):AFrame:={ fn:=64,N:=40,env:=[(0,AV.agg (Row.gen [AV.int .i64 a,AV.int .i64 b])),(1,AV.agg (Row.gen [AV.int .i64 c,AV.int .i64 n,AV.int .i64 f,AV.list (.ints .i64 ds)]))],todo:=[.code a64.code],defs:=[],rnd:=none,ret:=false,res:=[ARes.tmp 4] }
def Zzo(a:Int)(b:Int)(c:Int)(n:Int)(f:Int)(ds:List Int):List AFrame:=[(ZGS a b c n f ds)]
theorem Zz7(a:Int)(b:Int)(c:Int)(n:Int)(f:Int)(ds:List Int):Zam tab 64 [AV.agg (Row.gen [AV.int .i64 a,AV.int .i64 b]),AV.agg (Row.gen [AV.int .i64 c,AV.int .i64 n,AV.int .i64 f,AV.list (.ints .i64 ds)])]=some (ZGS a b c n f ds):=rfl
theorem ZKZ(A:Ar)(a b c n f:Int)(ds:List Int):ZaE A tab B2 27 [true] 64 (Zzo a b c n f ds) []=
 some (tr [3,3,6] [A.not (A.eq (Zby b c) 0),decide (-1000000≤b∧b≤1000000)],
  AV.int .i64 (Zby b c),none):=by kernel_rfl
theorem ZJI(A:Ar)(a b c n f:Int)(ds:List Int):ZaE A tab B2 51 [false,true,true,true,true,true,true,true,true,true,true,true] 64 (Zzo a b c n f ds) []=
 some (tr [25,5,3,6] [A.not (decide (0≤n∧n≤63)),!A.not (A.eq (Zby b c) 0),decide (-1000000≤b∧b≤1000000)],
  AV.int .i64 2,none):=by kernel_rfl
theorem ZKI(A:Ar)(a b c n f:Int)(ds:List Int):ZaE A tab B2 51 [false,false,false,false,false,false,false,false,false,true,true,true,false,true,false,true] 64 (Zzo a b c n f ds) []=
 some (tr [2,10,6,8,5,3,6] [A.not (A.eq f 255),A.not (decide (0≤f∧f≤A.sub a 1)),A.inR .i64 (A.sub a 1),!A.not (decide (0≤n∧n≤63)),!A.not (A.eq (Zby b c) 0),decide (-1000000≤b∧b≤1000000)],
  AV.int .i64 2,none):=by kernel_rfl
theorem ZKT(A:Ar)(a b c n f:Int)(ds:List Int):ZaE A tab B2 63 [false,false,false,false,false,false,false,false,false,true,true,true,false,true,false,false,true] 64 (Zzo a b c n f ds) []=
 some (tr [2,6,10,6,8,5,3,6] [A.not (A.eq (A.int (A.len ds)) a),!A.not (A.eq f 255),A.not (decide (0≤f∧f≤A.sub a 1)),A.inR .i64 (A.sub a 1),!A.not (decide (0≤n∧n≤63)),!A.not (A.eq (Zby b c) 0),decide (-1000000≤b∧b≤1000000)],
  AV.int .i64 10,none):=by kernel_rfl
theorem ZII(A:Ar)(a b c n f:Int)(ds:List Int):ZaE A tab B2 67 [false,false,false,false,false,false,false,false,false,true,true,true,false,true,false,false,false] 64 (Zzo a b c n f ds) []=
 some (tr [2,2,6,10,6,8,5,3,6] [decide (List.length ds≤1000000),!A.not (A.eq (A.int (A.len ds)) a),!A.not (A.eq f 255),A.not (decide (0≤f∧f≤A.sub a 1)),A.inR .i64 (A.sub a 1),!A.not (decide (0≤n∧n≤63)),!A.not (A.eq (Zby b c) 0),decide (-1000000≤b∧b≤1000000)],
  AV.int .i64 (ZaF ds),none):=by kernel_rfl
theorem ZIM(A:Ar)(a b c n f:Int)(ds:List Int):ZaE A tab B2 63 [false,false,false,false,false,false,false,false,false,false,false,false,false,false,false,false,true] 64 (Zzo a b c n f ds) []=
 some (tr [2,17,6,8,5,3,6] [A.not (A.eq (A.int (A.len ds)) a),!A.not (decide (0≤f∧f≤A.sub a 1)),A.inR .i64 (A.sub a 1),!A.not (decide (0≤n∧n≤63)),!A.not (A.eq (Zby b c) 0),decide (-1000000≤b∧b≤1000000)],
  AV.int .i64 10,none):=by kernel_rfl
theorem ZIk(A:Ar)(a b c n f:Int)(ds:List Int):ZaE A tab B2 67 [false,false,false,false,false,false,false,false,false,false,false,false,false,false,false,false,false] 64 (Zzo a b c n f ds) []=
 some (tr [2,2,17,6,8,5,3,6] [decide (List.length ds≤1000000),!A.not (A.eq (A.int (A.len ds)) a),!A.not (decide (0≤f∧f≤A.sub a 1)),A.inR .i64 (A.sub a 1),!A.not (decide (0≤n∧n≤63)),!A.not (A.eq (Zby b c) 0),decide (-1000000≤b∧b≤1000000)],
  AV.int .i64 (ZaF ds),none):=by kernel_rfl
def Zu4(a:Int)(b:Int)(c:Int)(n:Int)(f:Int)(ds:List Int):AFrame:={ fn:=110,N:=40,env:=[(0,AV.agg (Row.gen [AV.int .i64 a,AV.int .i64 b])),(1,AV.agg (Row.gen [AV.int .i64 c,AV.int .i64 n,AV.int .i64 f,AV.list (.ints .i64 ds)]))],todo:=[.code a110.code],defs:=[],rnd:=none,ret:=false,res:=[ARes.tmp 4] }
def ZyA(a:Int)(b:Int)(c:Int)(n:Int)(f:Int)(ds:List Int):List AFrame:=[(Zu4 a b c n f ds)]
theorem ZsI(a:Int)(b:Int)(c:Int)(n:Int)(f:Int)(ds:List Int):Zam tab 110 [AV.agg (Row.gen [AV.int .i64 a,AV.int .i64 b]),AV.agg (Row.gen [AV.int .i64 c,AV.int .i64 n,AV.int .i64 f,AV.list (.ints .i64 ds)])]=some (Zu4 a b c n f ds):=rfl
theorem ZGJ(A:Ar)(a b c n f:Int)(ds:List Int):ZaE A tab B2 10 [true,true] 110 (ZyA a b c n f ds) []=
 some (tr [2,0,0,16,8,11] [decide (List.length [ZaP b c,0,Zak (A.eq (A.int (A.len ds)) a) 10,ZaF ds]≤1000000),List.all [AV.int .i64 (ZaP b c),AV.int .i64 0,AV.int .i64 (Zak (A.eq (A.int (A.len ds)) a) 10),AV.int .i64 (ZaF ds)] fun x=>AV.bx x&&Nat.beq (Zac A x) 1,decide (List.length ds≤1000000),decide (0≤f∧f≤Go.IntKind.wrap .i64 (A.sub a 1)),decide (0≤n∧n≤63)],
  AV.int .i64 (Zaq [ZaP b c,0,Zak (A.eq (A.int (A.len ds)) a) 10,ZaF ds]),none):=by kernel_rfl
theorem ZEz(A:Ar)(a b c n f:Int)(ds:List Int):ZaE A tab B2 10 [true,false] 110 (ZyA a b c n f ds) []=
 some (tr [2,0,0,16,8,11] [decide (List.length [ZaP b c,Zak (A.eq f 255) 2,Zak (A.eq (A.int (A.len ds)) a) 10,ZaF ds]≤1000000),List.all [AV.int .i64 (ZaP b c),AV.int .i64 (Zak (A.eq f 255) 2),AV.int .i64 (Zak (A.eq (A.int (A.len ds)) a) 10),AV.int .i64 (ZaF ds)] fun x=>AV.bx x&&Nat.beq (Zac A x) 1,decide (List.length ds≤1000000),!decide (0≤f∧f≤Go.IntKind.wrap .i64 (A.sub a 1)),decide (0≤n∧n≤63)],
  AV.int .i64 (Zaq [ZaP b c,Zak (A.eq f 255) 2,Zak (A.eq (A.int (A.len ds)) a) 10,ZaF ds]),none):=by kernel_rfl
theorem ZDY(A:Ar)(a b c n f:Int)(ds:List Int):ZaE A tab B2 10 [false] 110 (ZyA a b c n f ds) []=
 some (tr [2,0,0,24,11] [decide (List.length [ZaP b c,2,Zak (A.eq (A.int (A.len ds)) a) 10,ZaF ds]≤1000000),List.all [AV.int .i64 (ZaP b c),AV.int .i64 2,AV.int .i64 (Zak (A.eq (A.int (A.len ds)) a) 10),AV.int .i64 (ZaF ds)] fun x=>AV.bx x&&Nat.beq (Zac A x) 1,decide (List.length ds≤1000000),!decide (0≤n∧n≤63)],
  AV.int .i64 (Zaq [ZaP b c,2,Zak (A.eq (A.int (A.len ds)) a) 10,ZaF ds]),none):=by kernel_rfl
end Go.Proofs.Ytjhdnpmojhkbjaa
/- Contracts as a list. No condition. -/
namespace Go.Proofs.Ytjhdnpmojhkbjaa
def okF(hi n f:Int):Bool:=decide ((0≤n∧n≤63)∧(0≤f∧f≤hi∨f=255))
def Zd2(a b c n f:Int)(ds:List Int):Int:=Zaq [ZaP b c,Zak (okF (wr (a-1)) n f) 2,Zak (decide ((ds.length:Int)=a)) 10,ZaF ds]
def Zdg(a b c n f:Int)(ds:List Int):Int:=Zaq [Zby b c,Zak (okF (a-1) n f) 2,Zak (decide ((ds.length:Int)=a)) 10,ZaF ds]
theorem Zh3{a b:Int}(h:ZbK a b=true)(c n f:Int)(ds:List Int):Zd2 a b c n f ds=Zdg a b c n f ds:=by
 simp only[ZbK,decide_eq_true_eq]at h
 unfold Zd2 Zdg ZaP Zby
 rw[ZEK (n:=b-1) (by omega),ZEK (n:=a-1) (by omega)]
theorem ZGZ(hi n f:Int)(h:¬(0≤n∧n≤63)):okF hi n f=false:=by simp[okF];omega
theorem ZCQ(hi n f:Int)(h:0≤n∧n≤63)(h2:0≤f∧f≤hi):okF hi n f=true:=by simp[okF];omega
theorem ZFe(hi n f:Int)(h:0≤n∧n≤63)(h2:¬(0≤f∧f≤hi)):okF hi n f=decide (f=255):=by
 by_cases h3:f=255
 ·simp[okF,h3,h]
 ·simp[okF,h3];omega
theorem Zmu(a b c n f:Int)(ds:List Int)(h:ds.length≤1000000):ZaK Try.prog 110 [.agg (.gen [.int .i64 a, .int .i64 b]), .agg (.gen [.int .i64 c, .int .i64 n, .int .i64 f, .list (.ints .i64 ds)])] (.int .i64 (Zd2 a b c n f ds)) none:=
 start (ZsI a b c n f ds) fun C hC=>by
  by_cases h1:0≤n∧n≤63
  ·by_cases h2:0≤f∧f≤wr (a-1)
   ·have h2':decide (0≤f∧f≤Go.IntKind.wrap .i64 (std.sub a 1))=true:=decide_eq_true h2
    exact fin hC Zh2 (ZGJ std a b c n f ds) (by simp only[h2'];simp[h1,h,AV.bx,Zac]) (by rw[Zd2,ZCQ _ _ _ h1 h2];rfl) rfl
   ·have h2':decide (0≤f∧f≤Go.IntKind.wrap .i64 (std.sub a 1))=false:=decide_eq_false h2
    exact fin hC Zh2 (ZEz std a b c n f ds) (by simp only[h2'];simp[h1,h,AV.bx,Zac]) (by rw[Zd2,ZFe _ _ _ h1 h2];rfl) rfl
  ·have h1':decide (0≤n∧n≤63)=false:=decide_eq_false h1
   exact fin hC Zh2 (ZDY std a b c n f ds) (by simp only[h1'];simp[h,AV.bx,Zac]) (by rw[Zd2,ZGZ _ _ _ h1];rfl) rfl
theorem ZpN(x y z u:Int):Zaq [x,y,z,u]=if x=0 then(if y=0 then(if z=0 then u else z)else y)else x:=by
 simp only[Zaq]
 by_cases hu:u=0<;>simp[hu]
theorem ZoY(a b c n f:Int)(ds:List Int)(h:(-1000000≤a∧a≤1000000)∧(-1000000≤b∧b≤1000000)):ZaK Try.prog 64 [.agg (.gen [.int .i64 a, .int .i64 b]), .agg (.gen [.int .i64 c, .int .i64 n, .int .i64 f, .list (.ints .i64 ds)])] (.int .i64 (Zdg a b c n f ds)) none:=
 start (Zz7 a b c n f ds) fun C hC=>by
  obtain⟨ha,hb⟩:=h
  rw[Zdg,ZpN]
  by_cases h0:Zby b c=0
  ·rw[if_pos h0]
   by_cases h1:0≤n∧n≤63
   ·by_cases h2:0≤f∧f≤a-1
    ·rw[ZCQ _ _ _ h1 h2,Zdv,if_pos rfl]
     by_cases h3:(ds.length:Int)=a
     ·exact fin hC Zh2 (ZIk std a b c n f ds) (by simp[h0,h1,h2.1,h2.2,h3];omega) (by simp[h3]) rfl
     ·exact fin hC Zh2 (ZIM std a b c n f ds) (by simp[h0,h1,h2.1,h2.2,h3];omega) (by simp[h3]) rfl
    ·have h2':decide (0≤f∧f≤std.sub a 1)=false:=decide_eq_false h2
     rw[ZFe _ _ _ h1 h2]
     by_cases h4:f=255
     ·rw[decide_eq_true h4,Zdv,if_pos rfl]
      by_cases h3:(ds.length:Int)=a
      ·exact fin hC Zh2 (ZII std a b c n f ds) (by simp only[h2'];simp[h0,h1,h3,h4];omega) (by simp[h3]) rfl
      ·exact fin hC Zh2 (ZKT std a b c n f ds) (by simp only[h2'];simp[h0,h1,h3,h4];omega) (by simp[h3]) rfl
     ·rw[decide_eq_false h4]
      exact fin hC Zh2 (ZKI std a b c n f ds) (by simp only[h2'];simp[h0,h1,h4];omega) (by simp) rfl
   ·have h1':decide (0≤n∧n≤63)=false:=decide_eq_false h1
    rw[ZGZ _ _ _ h1]
    exact fin hC Zh2 (ZJI std a b c n f ds) (by simp only[h1'];simp[h0];omega) (by simp) rfl
  ·rw[if_neg h0]
   exact fin hC Zh2 (ZKZ std a b c n f ds) (by simp[h0];omega) rfl rfl
def k110:Ctr:=⟨110,0,fun _ a=>match a with |[.agg (.gen [.int .i64 a, .int .i64 b]), .agg (.gen [.int .i64 c, .int .i64 n, .int .i64 f, .list (.ints .i64 ds)])]=>some (decide (ds.length≤1000000), .int .i64 (Zd2 a b c n f ds),none) |_=>none⟩
theorem Zwf:k110.OK Try.prog:=fun pa args r fr h=>by
 simp only[k110]at h
 split at h
 ·simp only[Option.some.injEq,Prod.mk.injEq,decide_eq_true_eq]at h
  obtain⟨h0,rfl,rfl⟩:=h
  exact Zmu _ _ _ _ _ _ h0
 ·cases h
def k64:Ctr:=⟨64,0,fun _ a=>match a with |[.agg (.gen [.int .i64 a, .int .i64 b]), .agg (.gen [.int .i64 c, .int .i64 n, .int .i64 f, .list (.ints .i64 ds)])]=>some (decide ((-1000000≤a∧a≤1000000)∧(-1000000≤b∧b≤1000000)), .int .i64 (Zdg a b c n f ds),none) |_=>none⟩
theorem ZD7:k64.OK Try.prog:=fun pa args r fr h=>by
 simp only[k64]at h
 split at h
 ·simp only[Option.some.injEq,Prod.mk.injEq,decide_eq_true_eq]at h
  obtain⟨h0,rfl,rfl⟩:=h
  exact ZoY _ _ _ _ _ _ h0
 ·cases h
def B3:List Ctr:=[k110,k64]++B2
theorem ZJU:Zap Try.prog B3:=⟨Zwf,⟨ZD7,Zh2⟩⟩
end Go.Proofs.Ytjhdnpmojhkbjaa
/- Contracts as a list. No condition. -/
namespace Go.Proofs.Ytjhdnpmojhkbjaa
theorem WkL.rel{w:World}{ok:Nat→Prop}{h:Zaa}{L:Lay}{xs ys:List AV}{v:Value}(hw:WkL xs ys)(hr:Rel w ok h L (.agg (.gen xs)) v):Rel w ok h L (.agg (.gen ys)) v:=by
 obtain⟨e1,e2⟩:=hw.spec
 cases hr with
 |agg _ us hx vs hl h1 hrr=>
  simp only[Row.elems]at hx
  subst hx
  refine .agg _ ys rfl vs (by rw[←e1];exact hl) h1 (fun j u v hu hv=>?_)
  obtain⟨q,q1,q2⟩:=e2 j u hu
  exact q2.rel (hrr j q v q1 hv)
inductive Wk2:AV→AV→Prop
 |one {x y:AV} (h:Wk1 x y):Wk2 x y
 |agg {xs ys:List AV} (h:WkL xs ys):Wk2 (.agg (.gen xs)) (.agg (.gen ys))
theorem Wk2.rel{w:World}{ok:Nat→Prop}{h:Zaa}{L:Lay}{x y:AV}{v:Value}(hw:Wk2 x y)(hr:Rel w ok h L x v):Rel w ok h L y v:=by
 cases hw with
 |one h=>exact h.rel hr
 |agg h=>exact h.rel hr
def Wk2L:List AV→List AV→Prop
 |[],[]=>True
 |x::xs,y::ys=>Wk2 x y∧Wk2L xs ys
 |_,_=>False
theorem Wk2L.spec:∀ {xs ys:List AV},Wk2L xs ys→xs.length=ys.length∧∀(j:Nat) (y:AV),ys[j]? =some y→∃x,xs[j]? =some x∧Wk2 x y
 |[],[],_=>⟨rfl,fun j y h=>by simp at h⟩
 |x::xs,y::ys,h=>by
  obtain⟨h1,h2⟩:=h
  obtain⟨e1,e2⟩:=Wk2L.spec h2
  refine⟨by simp[e1],fun j z hz=>?_⟩
  cases j with
  |zero=>simp at hz;subst hz;exact⟨x,rfl,h1⟩
  |succ j=>obtain⟨q,q1,q2⟩:=e2 j z (by simpa using hz);exact⟨q,by simpa using q1,q2⟩
theorem ZlC{f:FuncId}{args:List AV}{x y:AV}{fr:Option Fresh}(h:ZaK Try.prog f args x fr)(hw:∀ {w:World} {ok:Nat→Prop} {hh:Zaa} {L:Lay} {v:Value},Rel w ok hh L x v→Rel w ok hh L y v):ZaK Try.prog f args y fr:=by
 intro w okA L vs hargs hok
 refine(h w okA L vs hargs hok).mono ?_
 rintro e w' ⟨x,L',rfl,hb,hp⟩
 refine⟨x,L',rfl,hb,?_⟩
 unfold Zkz at hp⊢
 split
 ·rename_i hn;rw[hn]at hp;exact hw hp
 ·rename_i hn;rw[hn]at hp;exact⟨hp.1,hw hp.2⟩
theorem wk2{f:FuncId}{args:List AV}{x y:AV}{fr:Option Fresh}(h:ZaK Try.prog f args x fr)(hw:Wk2 x y):ZaK Try.prog f args y fr:=ZlC h hw.rel
theorem Zp1{f:FuncId}{args xs ys:List AV}{fr:Option Fresh}(h:ZaK Try.prog f args (.tup xs) fr)(hw:Wk2L xs ys):ZaK Try.prog f args (.tup ys) fr:=
 ZlC h fun hr=>by
  obtain⟨e1,e2⟩:=hw.spec
  cases hr with
  |tup _ vs hl hrr=>
   refine .tup _ vs (by rw[←e1];exact hl) (fun j u v hu hv=>?_)
   obtain⟨q,q1,q2⟩:=e2 j u hu
   exact q2.rel (hrr j q v q1 hv)
theorem ZrF{f:FuncId}{xs ys:List AV}{x:AV}{fr:Option Fresh}(h:ZaK Try.prog f ys x fr)(hw:Wk2L xs ys):ZaK Try.prog f xs x fr:=by
 intro w okA L vs hargs hok
 obtain⟨e1,e2⟩:=hw.spec
 refine h w okA L vs ⟨by rw[←e1];exact hargs.1,fun j u v hu hv=>?_⟩ hok
 obtain⟨q,q1,q2⟩:=e2 j u hu
 exact q2.rel (hargs.2 j q v q1 hv)
theorem ZjV(x:AV):Wk2 x x:=.one (.same _)
theorem ZkR{a b c n f:Int}{ds:List Int}(h:Zdg a b c n f ds=0):(0≤c∧c≤b-1)∧(0≤n∧n≤63)∧(0≤f∧f≤a-1∨f=255)∧(ds.length:Int)=a∧ZaF ds=0:=by
 rw[Zdg,ZpN]at h
 by_cases h1:0≤c∧c≤b-1
 ·rw[Zby,if_pos h1,if_pos rfl]at h
  by_cases h2:okF (a-1) n f=true
  ·rw[h2,Zdv,if_pos rfl]at h
   by_cases h3:(ds.length:Int)=a
   ·rw[decide_eq_true h3,Zdv,if_pos rfl]at h
    simp only[okF,decide_eq_true_eq]at h2
    exact⟨h1,h2.1,h2.2,h3,h⟩
   ·rw[decide_eq_false h3,Zh6,if_neg (by decide)]at h;cases h
  ·simp only[Bool.not_eq_true]at h2
   rw[h2,Zh6,if_neg (by decide)]at h;cases h
 ·rw[Zby,if_neg h1,if_neg (by decide)]at h;cases h
theorem ZiU{xs:List Int}(h:ZaF xs=0):∀x∈xs,0≤x∧x≤255:=by
 unfold ZaF at h
 split at h
 ·rename_i hb
  intro x hx
  have:=List.all_eq_true.1 hb x hx
  simpa[ZeP]using this
 ·cases h
def B4:List Ctr:=B3
theorem ZK1:Zap Try.prog B4:=ZJU
end Go.Proofs.Ytjhdnpmojhkbjaa
/- Contracts as a list. No condition. -/
namespace Go.Proofs.Ytjhdnpmojhkbjaa
theorem awake_ok:ZaK Try.prog 14 [] (.bool true) none:=Zx5
def k14:Ctr:=⟨14,0,fun _ a=>match a with |[]=>some (true, .bool true,none) |_=>none⟩
theorem ZFc:k14.OK Try.prog:=fun pa args r fr h=>by
 simp only[k14]at h
 split at h
 ·cases h
  exact awake_ok
 ·cases h
def B5:List Ctr:=[k14]++B4
theorem Zel:Zap Try.prog B5:=⟨ZFc,ZK1⟩
end Go.Proofs.Ytjhdnpmojhkbjaa
/- Paths of functions, printed by the explorer (Gx). No condition. -/
namespace Go.Proofs.Ytjhdnpmojhkbjaa
set_option maxRecDepth 100000
set_option linter.unusedVariables false
def ZuI(a:Int)(b:Int):AFrame:={ fn:=120,N:=20,env:=[(0,AV.int .i64 a),(1,AV.int .i64 b)],todo:=[.code a120.code],defs:=[],rnd:=none,ret:=false,res:=[ARes.tmp 4] }
def ZzD(a:Int)(b:Int):List AFrame:=[(ZuI a b)]
theorem Zsw(a:Int)(b:Int):Zam tab 120 [AV.int .i64 a,AV.int .i64 b]=some (ZuI a b):=rfl
theorem ZDe(A:Ar)(a b:Int):ZaE A tab B5 69 [false,false,true] 120 (ZzD a b) []=
 some (tr [2,3,1,18] [A.lt a b,!A.not (A.eq b b),!A.not (A.eq a a)],
  AV.int .i64 (-1),none):=by kernel_rfl
theorem ZBU(A:Ar)(a b:Int):ZaE A tab B5 78 [false,false,false,true] 120 (ZzD a b) []=
 some (tr [2,3,3,1,18] [A.lt b a,!A.lt a b,!A.not (A.eq b b),!A.not (A.eq a a)],
  AV.int .i64 1,none):=by kernel_rfl
theorem ZFN(A:Ar)(a b:Int):ZaE A tab B5 79 [false,false,false,false] 120 (ZzD a b) []=
 some (tr [2,3,3,1,18] [!A.lt b a,!A.lt a b,!A.not (A.eq b b),!A.not (A.eq a a)],
  AV.int .i64 0,none):=by kernel_rfl
end Go.Proofs.Ytjhdnpmojhkbjaa
/- Contracts as a list. No condition. -/
namespace Go.Proofs.Ytjhdnpmojhkbjaa
def Zh9(a b:Int):Int:=if a<b then -1 else if b<a then 1 else 0
theorem ZqM(a b:Int):ZaK Try.prog 120 [.int .i64 a, .int .i64 b] (.int .i64 (Zh9 a b)) none:=
 start (Zsw a b) fun C hC=>by
  by_cases h1:a<b
  ·exact fin hC Zel (ZDe std a b) (by simp[h1]) (by rw[Zh9,if_pos h1]) rfl
  ·by_cases h2:b<a
   ·exact fin hC Zel (ZBU std a b) (by simp[h1,h2]) (by rw[Zh9,if_neg h1,if_pos h2]) rfl
   ·exact fin hC Zel (ZFN std a b) (by simp[h1,h2]) (by rw[Zh9,if_neg h1,if_neg h2]) rfl
def k120:Ctr:=⟨120,0,fun _ a=>match a with |[.int .i64 a, .int .i64 b]=>some (true, .int .i64 (Zh9 a b),none) |_=>none⟩
theorem Zzk:k120.OK Try.prog:=fun pa args r fr h=>by
 simp only[k120]at h
 split at h
 ·cases h
  exact ZqM _ _
 ·cases h
def BO0:List Ctr:=[k120]++B5
theorem Zr9:Zap Try.prog BO0:=⟨Zzk,Zel⟩
end Go.Proofs.Ytjhdnpmojhkbjaa
