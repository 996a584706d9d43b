/- Calls at given values. Printed by facts.py. -/
import Derived.Test.YtkeoeooghhjibaaGreatDoorPq
import Derived.KernelRfl
namespace Go.Proofs.YtkeoeooghhjibaaGreatDoor
set_option maxRecDepth 1000000
def vq3:AV:=.list (.big .str [(.str [115,97,102,101]),(.str [99,114,117,105,115,101]),(.str [98,117,114,110])])
def vq2:AV:=.list (.big (.agg [.str,(.int .i64)]) [(.agg (.gen [(.str [119,97,107,101]),(.int .i64 1)])),(.agg (.gen [(.str [102,105,114,101]),(.int .i64 2)])),(.agg (.gen [(.str [115,116,111,112]),(.int .i64 1)])),(.agg (.gen [(.str [112,105,110,103]),(.int .i64 (-1))]))])
def vq5:AV:=.agg (.gen [(.str [104,101,97,116]),(.int .i64 1),(.int .i64 (-1)),(.int .i64 2),(.int .i64 50)])
def vq1:AV:=.list (.big (.agg [.str,(.int .i64),(.int .i64),(.int .i64),(.int .i64)]) [(.agg (.gen [(.str [99,111,108,100]),(.int .i64 1),(.int .i64 0),(.int .i64 (-1)),(.int .i64 1)])),vq5])
def vq0:AV:=.agg (.gen [vq3,vq2,vq1])
def vq15:AV:=.agg (.gen [(.int .i64 0),(.int .i64 0),(.int .i64 100)])
def vq11:AV:=.agg (.gen [(.int .i64 1),(.int .i64 20),(.int .i64 200)])
def vq12:AV:=.agg (.gen [(.int .i64 2),(.int .i64 30),(.int .i64 300)])
def vq13:AV:=.agg (.gen [(.int .i64 1),(.int .i64 40),(.int .i64 400)])
def vq4:AV:=.list (.big (.agg [(.int .i64),(.int .i64),(.int .i64)]) [vq15,vq11,vq12,vq13])
def vq6:AV:=.list (.ints .i64 [(-1),(-1),(-1),(-1)])
def vq7:AV:=.agg (.gen [vq3,vq2,vq1,(.int .i64 1),(.int .i64 20),(.list (.ints .i64 [0,(-1),(-1),(-1)]))])
def vq8:AV:=.agg (.gen [vq3,vq2,vq1,(.int .i64 2),(.int .i64 30),(.list (.ints .i64 [0,20,(-1),(-1)]))])
def vq20:AV:=.agg (.gen [(.int .i64 0),(.int .i64 0)])
def vq9:AV:=.list (.big (.agg [(.int .i64),(.int .i64)]) [vq20])
def vq10:AV:=.agg (.gen [(.int .i64 0),(.int .i64 0),vq6])
def vq14:AV:=.agg (.gen [vq3,vq2,vq1,vq4,(.int .i64 2),(.int .i64 2)])
def vq16:AV:=.agg (.gen [vq3,vq2,vq1,(.int .i64 0),(.int .i64 0),vq6])
def vq24:AV:=.list (.ints .i64 [0,20,30,(-1)])
def vq17:AV:=.agg (.gen [vq3,vq2,vq1,(.int .i64 1),(.int .i64 80),vq24])
def vq18:AV:=.agg (.gen [(.int .i64 1),(.int .i64 0)])
def vq19:AV:=.agg (.gen [(.int .i64 2),(.int .i64 0)])
def vq21:AV:=.agg (.gen [(.int .i64 5),(.int .i64 0)])
def vq22:AV:=.agg (.gen [(.int .i64 3),(.int .i64 0)])
def vq23:AV:=.tup [(.int .u64 0),(.int .u64 4)]
def vq25:AV:=.list (.ints .i64 [0,20,30,80])
abbrev vFO(a:Fact):Prop:=Zan Tryz.prog a.f a.args a.r a.fr
def aw0:Fact:=⟨66,[],vq14,none⟩
theorem ZC6:vFO aw0:=Zaf (n:=100000) (l:=[]) follows Zah trivial (by kernel_rfl)
def aw1:Fact:=⟨68,[(.bool true),(.int .i64 10)],(.int .i64 0),none⟩
theorem Zrn:vFO aw1:=Zaf (n:=100000) (l:=[]) follows Zah trivial (by kernel_rfl)
def aw2:Fact:=⟨68,[(.bool true),(.int .i64 8)],(.int .i64 0),none⟩
theorem Zpg:vFO aw2:=Zaf (n:=100000) (l:=[]) follows Zah trivial (by kernel_rfl)
def aw3:Fact:=⟨67,[(.list (.ints .i64 [0,0]))],(.int .i64 0),none⟩
theorem Zpc:vFO aw3:=Zaf (n:=100000) (l:=[]) follows Zah trivial (by kernel_rfl)
def aw4:Fact:=⟨160,[(.int .i64 0),(.eptr vq0 0)],(.str [115,97,102,101]),none⟩
theorem ZF5:vFO aw4:=Zaf (n:=100000) (l:=[]) follows Zah trivial (by kernel_rfl)
def aw5:Fact:=⟨182,[(.str [115,97,102,101])],(.bool true),none⟩
theorem ZDU:vFO aw5:=Zaf (n:=100000) (l:=[]) follows Zah trivial (by kernel_rfl)
def aw6:Fact:=⟨68,[(.bool true),(.int .i64 4)],(.int .i64 0),none⟩
theorem ZEr:vFO aw6:=Zaf (n:=100000) (l:=[]) follows Zah trivial (by kernel_rfl)
def aw7:Fact:=⟨68,[(.bool true),(.int .i64 5)],(.int .i64 0),none⟩
theorem ZFH:vFO aw7:=Zaf (n:=100000) (l:=[]) follows Zah trivial (by kernel_rfl)
def aw8:Fact:=⟨161,[(.int .i64 0)],(.int .i64 0),none⟩
theorem ZDJ:vFO aw8:=Zaf (n:=100000) (l:=[]) follows Zah trivial (by kernel_rfl)
def aw9:Fact:=⟨67,[(.list (.ints .i64 [0,0,0]))],(.int .i64 0),none⟩
theorem Zhu:vFO aw9:=Zaf (n:=100000) (l:=[]) follows Zah trivial (by kernel_rfl)
def aw10:Fact:=⟨160,[(.int .i64 1),(.eptr vq0 0)],(.str [99,114,117,105,115,101]),none⟩
theorem ZxE:vFO aw10:=Zaf (n:=100000) (l:=[]) follows Zah trivial (by kernel_rfl)
def aw11:Fact:=⟨182,[(.str [99,114,117,105,115,101])],(.bool true),none⟩
theorem Zyh:vFO aw11:=Zaf (n:=100000) (l:=[]) follows Zah trivial (by kernel_rfl)
def aw12:Fact:=⟨161,[(.int .i64 1)],(.int .i64 0),none⟩
theorem Zz3:vFO aw12:=Zaf (n:=100000) (l:=[]) follows Zah trivial (by kernel_rfl)
def aw13:Fact:=⟨160,[(.int .i64 2),(.eptr vq0 0)],(.str [98,117,114,110]),none⟩
theorem Zxv:vFO aw13:=Zaf (n:=100000) (l:=[]) follows Zah trivial (by kernel_rfl)
def aw14:Fact:=⟨182,[(.str [98,117,114,110])],(.bool true),none⟩
theorem Zxi:vFO aw14:=Zaf (n:=100000) (l:=[]) follows Zah trivial (by kernel_rfl)
def aw15:Fact:=⟨161,[(.int .i64 2)],(.int .i64 0),none⟩
theorem ZyT:vFO aw15:=Zaf (n:=100000) (l:=[]) follows Zah trivial (by kernel_rfl)
def aw16:Fact:=⟨162,[(.int .i64 0),(.eptr vq0 0)],(.str [119,97,107,101]),none⟩
theorem ZBn:vFO aw16:=Zaf (n:=100000) (l:=[]) follows Zah trivial (by kernel_rfl)
def aw17:Fact:=⟨182,[(.str [119,97,107,101])],(.bool true),none⟩
theorem ZA9:vFO aw17:=Zaf (n:=100000) (l:=[]) follows Zah trivial (by kernel_rfl)
def aw18:Fact:=⟨82,[(.int .i64 1),(.int .i64 0),(.int .i64 2)],(.bool true),none⟩
theorem ZBr:vFO aw18:=Zaf (n:=100000) (l:=[]) follows Zah trivial (by kernel_rfl)
def aw19:Fact:=⟨158,[(.int .i64 1),(.int .i64 3)],(.bool true),none⟩
theorem Zsx:vFO aw19:=Zaf (n:=100000) (l:=[aw18]) follows Zah ⟨ZBr,trivial⟩ (by kernel_rfl)
def aw20:Fact:=⟨68,[(.bool true),(.int .i64 6)],(.int .i64 0),none⟩
theorem Zdw:vFO aw20:=Zaf (n:=100000) (l:=[]) follows Zah trivial (by kernel_rfl)
def aw21:Fact:=⟨163,[(.int .i64 0),(.eptr (.fn 158 []) 0),(.eptr vq0 0),(.eptr (.int .i64 3) 0)],(.int .i64 0),none⟩
theorem ZyR:vFO aw21:=Zaf (n:=100000) (l:=[aw19,aw20]) follows Zah ⟨Zsx,⟨Zdw,trivial⟩⟩ (by kernel_rfl)
def aw22:Fact:=⟨162,[(.int .i64 1),(.eptr vq0 0)],(.str [102,105,114,101]),none⟩
theorem ZAc:vFO aw22:=Zaf (n:=100000) (l:=[]) follows Zah trivial (by kernel_rfl)
def aw23:Fact:=⟨182,[(.str [102,105,114,101])],(.bool true),none⟩
theorem ZyL:vFO aw23:=Zaf (n:=100000) (l:=[]) follows Zah trivial (by kernel_rfl)
def aw24:Fact:=⟨82,[(.int .i64 2),(.int .i64 0),(.int .i64 2)],(.bool true),none⟩
theorem ZxC:vFO aw24:=Zaf (n:=100000) (l:=[]) follows Zah trivial (by kernel_rfl)
def aw25:Fact:=⟨158,[(.int .i64 2),(.int .i64 3)],(.bool true),none⟩
theorem ZA6:vFO aw25:=Zaf (n:=100000) (l:=[aw24]) follows Zah ⟨ZxC,trivial⟩ (by kernel_rfl)
def aw26:Fact:=⟨163,[(.int .i64 1),(.eptr (.fn 158 []) 0),(.eptr vq0 0),(.eptr (.int .i64 3) 0)],(.int .i64 0),none⟩
theorem ZzL:vFO aw26:=Zaf (n:=100000) (l:=[aw25,aw20]) follows Zah ⟨ZA6,⟨Zdw,trivial⟩⟩ (by kernel_rfl)
def aw27:Fact:=⟨162,[(.int .i64 2),(.eptr vq0 0)],(.str [115,116,111,112]),none⟩
theorem ZBf:vFO aw27:=Zaf (n:=100000) (l:=[]) follows Zah trivial (by kernel_rfl)
def aw28:Fact:=⟨182,[(.str [115,116,111,112])],(.bool true),none⟩
theorem ZA8:vFO aw28:=Zaf (n:=100000) (l:=[]) follows Zah trivial (by kernel_rfl)
def aw29:Fact:=⟨163,[(.int .i64 2),(.eptr (.fn 158 []) 0),(.eptr vq0 0),(.eptr (.int .i64 3) 0)],(.int .i64 0),none⟩
theorem ZyY:vFO aw29:=Zaf (n:=100000) (l:=[aw19,aw20]) follows Zah ⟨Zsx,⟨Zdw,trivial⟩⟩ (by kernel_rfl)
def aw30:Fact:=⟨162,[(.int .i64 3),(.eptr vq0 0)],(.str [112,105,110,103]),none⟩
theorem ZAB:vFO aw30:=Zaf (n:=100000) (l:=[]) follows Zah trivial (by kernel_rfl)
def aw31:Fact:=⟨182,[(.str [112,105,110,103])],(.bool true),none⟩
theorem ZAK:vFO aw31:=Zaf (n:=100000) (l:=[]) follows Zah trivial (by kernel_rfl)
def aw32:Fact:=⟨158,[(.int .i64 (-1)),(.int .i64 3)],(.bool true),none⟩
theorem Zs0:vFO aw32:=Zaf (n:=100000) (l:=[]) follows Zah trivial (by kernel_rfl)
def aw33:Fact:=⟨163,[(.int .i64 3),(.eptr (.fn 158 []) 0),(.eptr vq0 0),(.eptr (.int .i64 3) 0)],(.int .i64 0),none⟩
theorem ZAA:vFO aw33:=Zaf (n:=100000) (l:=[aw32,aw20]) follows Zah ⟨Zs0,⟨Zdw,trivial⟩⟩ (by kernel_rfl)
def aw34:Fact:=⟨164,[(.int .i64 0),(.eptr vq0 0)],(.str [99,111,108,100]),none⟩
theorem ZxY:vFO aw34:=Zaf (n:=100000) (l:=[]) follows Zah trivial (by kernel_rfl)
def aw35:Fact:=⟨182,[(.str [99,111,108,100])],(.bool true),none⟩
theorem ZxM:vFO aw35:=Zaf (n:=100000) (l:=[]) follows Zah trivial (by kernel_rfl)
def aw36:Fact:=⟨82,[(.int .i64 1),(.int .i64 0),(.int .i64 3)],(.bool true),none⟩
theorem ZiH:vFO aw36:=Zaf (n:=100000) (l:=[]) follows Zah trivial (by kernel_rfl)
def aw37:Fact:=⟨82,[(.int .i64 0),(.int .i64 0),(.int .i64 2)],(.bool true),none⟩
theorem Zsy:vFO aw37:=Zaf (n:=100000) (l:=[]) follows Zah trivial (by kernel_rfl)
def aw38:Fact:=⟨158,[(.int .i64 0),(.int .i64 3)],(.bool true),none⟩
theorem Zyp:vFO aw38:=Zaf (n:=100000) (l:=[aw37]) follows Zah ⟨Zsy,trivial⟩ (by kernel_rfl)
def aw39:Fact:=⟨158,[(.int .i64 (-1)),(.int .i64 4)],(.bool true),none⟩
theorem Zw6:vFO aw39:=Zaf (n:=100000) (l:=[]) follows Zah trivial (by kernel_rfl)
def aw40:Fact:=⟨82,[(.int .i64 1),(.int .i64 1),(.int .i64 1000000)],(.bool true),none⟩
theorem Zze:vFO aw40:=Zaf (n:=100000) (l:=[]) follows Zah trivial (by kernel_rfl)
def aw41:Fact:=⟨68,[(.bool true),(.int .i64 2)],(.int .i64 0),none⟩
theorem Zcl:vFO aw41:=Zaf (n:=100000) (l:=[]) follows Zah trivial (by kernel_rfl)
def aw42:Fact:=⟨68,[(.bool true),(.int .i64 3)],(.int .i64 0),none⟩
theorem Ztf:vFO aw42:=Zaf (n:=100000) (l:=[]) follows Zah trivial (by kernel_rfl)
def aw43:Fact:=⟨165,[(.int .i64 0),(.eptr vq0 0),(.eptr (.int .i64 4) 0),(.eptr (.fn 158 []) 0),(.eptr (.int .i64 3) 0)],(.int .i64 0),none⟩
theorem Zw3:vFO aw43:=Zaf (n:=100000) (l:=[aw36,aw38,aw39,aw20,aw40,aw41,aw42,aw9]) follows Zah ⟨ZiH,⟨Zyp,⟨Zw6,⟨Zdw,⟨Zze,⟨Zcl,⟨Ztf,⟨Zhu,trivial⟩⟩⟩⟩⟩⟩⟩⟩ (by kernel_rfl)
def aw44:Fact:=⟨164,[(.int .i64 1),(.eptr vq0 0)],(.str [104,101,97,116]),none⟩
theorem Zxp:vFO aw44:=Zaf (n:=100000) (l:=[]) follows Zah trivial (by kernel_rfl)
def aw45:Fact:=⟨182,[(.str [104,101,97,116])],(.bool true),none⟩
theorem Zz5:vFO aw45:=Zaf (n:=100000) (l:=[]) follows Zah trivial (by kernel_rfl)
def aw46:Fact:=⟨82,[(.int .i64 2),(.int .i64 0),(.int .i64 3)],(.bool true),none⟩
theorem Zru:vFO aw46:=Zaf (n:=100000) (l:=[]) follows Zah trivial (by kernel_rfl)
def aw47:Fact:=⟨158,[(.int .i64 2),(.int .i64 4)],(.bool true),none⟩
theorem Zz2:vFO aw47:=Zaf (n:=100000) (l:=[aw46]) follows Zah ⟨Zru,trivial⟩ (by kernel_rfl)
def aw48:Fact:=⟨82,[(.int .i64 50),(.int .i64 1),(.int .i64 1000000)],(.bool true),none⟩
theorem ZA1:vFO aw48:=Zaf (n:=100000) (l:=[]) follows Zah trivial (by kernel_rfl)
def aw49:Fact:=⟨165,[(.int .i64 1),(.eptr vq0 0),(.eptr (.int .i64 4) 0),(.eptr (.fn 158 []) 0),(.eptr (.int .i64 3) 0)],(.int .i64 0),none⟩
theorem ZxD:vFO aw49:=Zaf (n:=100000) (l:=[aw36,aw32,aw47,aw20,aw48,aw41,aw42,aw9]) follows Zah ⟨ZiH,⟨Zs0,⟨Zz2,⟨Zdw,⟨ZA1,⟨Zcl,⟨Ztf,⟨Zhu,trivial⟩⟩⟩⟩⟩⟩⟩⟩ (by kernel_rfl)
def aw50:Fact:=⟨136,[vq0],(.tup [vq20,(.int .i64 0)]),none⟩
theorem Zxs:vFO aw50:=Zaf (n:=100000) (l:=[aw1,aw2,aw3,aw4,aw5,aw6,aw7,aw8,aw9,aw10,aw11,aw12,aw13,aw14,aw15,aw16,aw17,aw21,aw22,aw23,aw26,aw27,aw28,aw29,aw30,aw31,aw33,aw34,aw35,aw43,aw44,aw45,aw49]) follows Zah ⟨Zrn,⟨Zpg,⟨Zpc,⟨ZF5,⟨ZDU,⟨ZEr,⟨ZFH,⟨ZDJ,⟨Zhu,⟨ZxE,⟨Zyh,⟨Zz3,⟨Zxv,⟨Zxi,⟨ZyT,⟨ZBn,⟨ZA9,⟨ZyR,⟨ZAc,⟨ZyL,⟨ZzL,⟨ZBf,⟨ZA8,⟨ZyY,⟨ZAB,⟨ZAK,⟨ZAA,⟨ZxY,⟨ZxM,⟨Zw3,⟨Zxp,⟨Zz5,⟨ZxD,trivial⟩⟩⟩⟩⟩⟩⟩⟩⟩⟩⟩⟩⟩⟩⟩⟩⟩⟩⟩⟩⟩⟩⟩⟩⟩⟩⟩⟩⟩⟩⟩⟩⟩ (by kernel_rfl)
def aw51:Fact:=⟨88,[vq0],(.int .i64 0),none⟩
theorem ZqT:vFO aw51:=Zaf (n:=100000) (l:=[aw50]) follows Zah ⟨Zxs,trivial⟩ (by kernel_rfl)
def aw52:Fact:=⟨82,[(.int .i64 0),(.int .i64 0),(.int .i64 3)],(.bool true),none⟩
theorem ZyO:vFO aw52:=Zaf (n:=100000) (l:=[]) follows Zah trivial (by kernel_rfl)
def aw53:Fact:=⟨68,[(.bool true),(.int .i64 15)],(.int .i64 0),none⟩
theorem Ziy:vFO aw53:=Zaf (n:=100000) (l:=[]) follows Zah trivial (by kernel_rfl)
def aw54:Fact:=⟨82,[(.int .i64 0),(.int .i64 0),(.int .i64 1000000000000)],(.bool true),none⟩
theorem ZAN:vFO aw54:=Zaf (n:=100000) (l:=[]) follows Zah trivial (by kernel_rfl)
def aw55:Fact:=⟨89,[(.int .i64 0)],(.bool true),none⟩
theorem Zsw:vFO aw55:=Zaf (n:=100000) (l:=[aw54]) follows Zah ⟨ZAN,trivial⟩ (by kernel_rfl)
def aw56:Fact:=⟨82,[(.int .i64 100),(.int .i64 0),(.int .i64 1000000000000)],(.bool true),none⟩
theorem ZyH:vFO aw56:=Zaf (n:=100000) (l:=[]) follows Zah trivial (by kernel_rfl)
def aw57:Fact:=⟨89,[(.int .i64 100)],(.bool true),none⟩
theorem Zyj:vFO aw57:=Zaf (n:=100000) (l:=[aw56]) follows Zah ⟨ZyH,trivial⟩ (by kernel_rfl)
def aw58:Fact:=⟨68,[(.bool true),(.int .i64 9)],(.int .i64 0),none⟩
theorem Zlr:vFO aw58:=Zaf (n:=100000) (l:=[]) follows Zah trivial (by kernel_rfl)
def aw59:Fact:=⟨120,[vq0,vq15],(.int .i64 0),none⟩
theorem Zw7:vFO aw59:=Zaf (n:=100000) (l:=[aw52,aw53,aw55,aw57,aw41,aw58,aw9]) follows Zah ⟨ZyO,⟨Ziy,⟨Zsw,⟨Zyj,⟨Zcl,⟨Zlr,⟨Zhu,trivial⟩⟩⟩⟩⟩⟩⟩ (by kernel_rfl)
def aw60:Fact:=⟨82,[(.int .i64 20),(.int .i64 0),(.int .i64 1000000000000)],(.bool true),none⟩
theorem ZAU:vFO aw60:=Zaf (n:=100000) (l:=[]) follows Zah trivial (by kernel_rfl)
def aw61:Fact:=⟨89,[(.int .i64 20)],(.bool true),none⟩
theorem Zx4:vFO aw61:=Zaf (n:=100000) (l:=[aw60]) follows Zah ⟨ZAU,trivial⟩ (by kernel_rfl)
def aw62:Fact:=⟨82,[(.int .i64 200),(.int .i64 0),(.int .i64 1000000000000)],(.bool true),none⟩
theorem ZyK:vFO aw62:=Zaf (n:=100000) (l:=[]) follows Zah trivial (by kernel_rfl)
def aw63:Fact:=⟨89,[(.int .i64 200)],(.bool true),none⟩
theorem ZA5:vFO aw63:=Zaf (n:=100000) (l:=[aw62]) follows Zah ⟨ZyK,trivial⟩ (by kernel_rfl)
def aw64:Fact:=⟨120,[vq0,vq11],(.int .i64 0),none⟩
theorem ZAa:vFO aw64:=Zaf (n:=100000) (l:=[aw36,aw53,aw61,aw63,aw41,aw58,aw9]) follows Zah ⟨ZiH,⟨Ziy,⟨Zx4,⟨ZA5,⟨Zcl,⟨Zlr,⟨Zhu,trivial⟩⟩⟩⟩⟩⟩⟩ (by kernel_rfl)
def aw65:Fact:=⟨82,[(.int .i64 30),(.int .i64 0),(.int .i64 1000000000000)],(.bool true),none⟩
theorem Zx0:vFO aw65:=Zaf (n:=100000) (l:=[]) follows Zah trivial (by kernel_rfl)
def aw66:Fact:=⟨89,[(.int .i64 30)],(.bool true),none⟩
theorem Zyo:vFO aw66:=Zaf (n:=100000) (l:=[aw65]) follows Zah ⟨Zx0,trivial⟩ (by kernel_rfl)
def aw67:Fact:=⟨82,[(.int .i64 300),(.int .i64 0),(.int .i64 1000000000000)],(.bool true),none⟩
theorem Zxx:vFO aw67:=Zaf (n:=100000) (l:=[]) follows Zah trivial (by kernel_rfl)
def aw68:Fact:=⟨89,[(.int .i64 300)],(.bool true),none⟩
theorem ZAZ:vFO aw68:=Zaf (n:=100000) (l:=[aw67]) follows Zah ⟨Zxx,trivial⟩ (by kernel_rfl)
def aw69:Fact:=⟨120,[vq0,vq12],(.int .i64 0),none⟩
theorem ZBb:vFO aw69:=Zaf (n:=100000) (l:=[aw46,aw53,aw66,aw68,aw41,aw58,aw9]) follows Zah ⟨Zru,⟨Ziy,⟨Zyo,⟨ZAZ,⟨Zcl,⟨Zlr,⟨Zhu,trivial⟩⟩⟩⟩⟩⟩⟩ (by kernel_rfl)
def aw70:Fact:=⟨82,[(.int .i64 40),(.int .i64 0),(.int .i64 1000000000000)],(.bool true),none⟩
theorem Zzw:vFO aw70:=Zaf (n:=100000) (l:=[]) follows Zah trivial (by kernel_rfl)
def aw71:Fact:=⟨89,[(.int .i64 40)],(.bool true),none⟩
theorem ZBt:vFO aw71:=Zaf (n:=100000) (l:=[aw70]) follows Zah ⟨Zzw,trivial⟩ (by kernel_rfl)
def aw72:Fact:=⟨82,[(.int .i64 400),(.int .i64 0),(.int .i64 1000000000000)],(.bool true),none⟩
theorem ZA2:vFO aw72:=Zaf (n:=100000) (l:=[]) follows Zah trivial (by kernel_rfl)
def aw73:Fact:=⟨89,[(.int .i64 400)],(.bool true),none⟩
theorem Zxz:vFO aw73:=Zaf (n:=100000) (l:=[aw72]) follows Zah ⟨ZA2,trivial⟩ (by kernel_rfl)
def aw74:Fact:=⟨120,[vq0,vq13],(.int .i64 0),none⟩
theorem Zzx:vFO aw74:=Zaf (n:=100000) (l:=[aw36,aw53,aw71,aw73,aw41,aw58,aw9]) follows Zah ⟨ZiH,⟨Ziy,⟨ZBt,⟨Zxz,⟨Zcl,⟨Zlr,⟨Zhu,trivial⟩⟩⟩⟩⟩⟩⟩ (by kernel_rfl)
def aw75:Fact:=⟨71,[vq0,vq4],(.tup [(.int .i64 0),(.int .i64 0)]),none⟩
theorem ZrJ:vFO aw75:=Zaf (n:=100000) (l:=[aw51,aw1,aw2,aw9,aw59,aw64,aw69,aw74]) follows Zah ⟨ZqT,⟨Zrn,⟨Zpg,⟨Zhu,⟨Zw7,⟨ZAa,⟨ZBb,⟨Zzx,trivial⟩⟩⟩⟩⟩⟩⟩⟩ (by kernel_rfl)
def aw76:Fact:=⟨179,[(.int .u64 1),(.int .u64 4)],vq23,none⟩
theorem Zyg:vFO aw76:=Zaf (n:=100000) (l:=[]) follows Zah trivial (by kernel_rfl)
def aw77:Fact:=⟨152,[(.int .u64 1),(.int .u64 4)],vq23,none⟩
theorem ZzZ:vFO aw77:=Zaf (n:=100000) (l:=[aw76]) follows Zah ⟨Zyg,trivial⟩ (by kernel_rfl)
def aw78:Fact:=⟨121,[(.list (.ints .i64 [(-1)])),(.int .i64 4)],(.row 0 0),(some ⟨3,1,(.ints .i64 [(-1),(-1),(-1),(-1)])⟩)⟩
theorem ZnK:vFO aw78:=Zaf (n:=100000) (l:=[aw77]) follows Zah ⟨ZzZ,trivial⟩ (by kernel_rfl)
def aw79:Fact:=⟨122,[(.eptr vq16 0),vq5,(.int .i64 0)],(.bool false),none⟩
theorem Zxr:vFO aw79:=Zaf (n:=100000) (l:=[]) follows Zah trivial (by kernel_rfl)
def aw80:Fact:=⟨82,[(.int .i64 0),(.int .i64 0),(.int .i64 100)],(.bool true),none⟩
theorem ZyJ:vFO aw80:=Zaf (n:=100000) (l:=[]) follows Zah trivial (by kernel_rfl)
def aw81:Fact:=⟨91,[(.eptr vq16 0),(.int .i64 0)],(.val (.pointer none)),none⟩
theorem ZzW:vFO aw81:=Zaf (n:=100000) (l:=[]) follows Zah trivial (by kernel_rfl)
def aw82:Fact:=⟨123,[(.eptr vq16 0),vq15],(.bool true),none⟩
theorem Zn7:vFO aw82:=Zaf (n:=100000) (l:=[aw80,aw81]) follows Zah ⟨ZyJ,⟨ZzW,trivial⟩⟩ (by kernel_rfl)
def aw83:Fact:=⟨122,[(.eptr vq7 0),vq5,(.int .i64 1)],(.bool true),none⟩
theorem ZBa:vFO aw83:=Zaf (n:=100000) (l:=[]) follows Zah trivial (by kernel_rfl)
def aw84:Fact:=⟨82,[(.int .i64 20),(.int .i64 20),(.int .i64 200)],(.bool true),none⟩
theorem ZAm:vFO aw84:=Zaf (n:=100000) (l:=[]) follows Zah trivial (by kernel_rfl)
def aw85:Fact:=⟨91,[(.eptr vq7 0),(.int .i64 1)],(.val (.pointer none)),none⟩
theorem ZAP:vFO aw85:=Zaf (n:=100000) (l:=[]) follows Zah trivial (by kernel_rfl)
def aw86:Fact:=⟨123,[(.eptr vq7 0),vq11],(.bool true),none⟩
theorem Zw0:vFO aw86:=Zaf (n:=100000) (l:=[aw84,aw85]) follows Zah ⟨ZAm,⟨ZAP,trivial⟩⟩ (by kernel_rfl)
def aw87:Fact:=⟨122,[(.eptr vq8 0),vq5,(.int .i64 2)],(.bool false),none⟩
theorem Zw5:vFO aw87:=Zaf (n:=100000) (l:=[]) follows Zah trivial (by kernel_rfl)
def aw88:Fact:=⟨82,[(.int .i64 30),(.int .i64 30),(.int .i64 300)],(.bool true),none⟩
theorem Zz7:vFO aw88:=Zaf (n:=100000) (l:=[]) follows Zah trivial (by kernel_rfl)
def aw89:Fact:=⟨91,[(.eptr vq8 0),(.int .i64 2)],(.val (.pointer none)),none⟩
theorem ZyD:vFO aw89:=Zaf (n:=100000) (l:=[]) follows Zah trivial (by kernel_rfl)
def aw90:Fact:=⟨123,[(.eptr vq8 0),vq12],(.bool true),none⟩
theorem Zz9:vFO aw90:=Zaf (n:=100000) (l:=[aw88,aw89]) follows Zah ⟨Zz7,⟨ZyD,trivial⟩⟩ (by kernel_rfl)
def aw91:Fact:=⟨122,[(.eptr (.agg (.gen [vq3,vq2,vq1,(.int .i64 1),(.int .i64 40),vq24])) 0),vq5,(.int .i64 1)],(.bool true),none⟩
theorem ZAe:vFO aw91:=Zaf (n:=100000) (l:=[]) follows Zah trivial (by kernel_rfl)
def aw92:Fact:=⟨82,[(.int .i64 80),(.int .i64 40),(.int .i64 400)],(.bool true),none⟩
theorem Zx8:vFO aw92:=Zaf (n:=100000) (l:=[]) follows Zah trivial (by kernel_rfl)
def aw93:Fact:=⟨91,[(.eptr vq17 0),(.int .i64 1)],(.val (.pointer none)),none⟩
theorem Zx7:vFO aw93:=Zaf (n:=100000) (l:=[]) follows Zah trivial (by kernel_rfl)
def aw94:Fact:=⟨123,[(.eptr vq17 0),vq13],(.bool true),none⟩
theorem ZyZ:vFO aw94:=Zaf (n:=100000) (l:=[aw92,aw93]) follows Zah ⟨Zx8,⟨Zx7,trivial⟩⟩ (by kernel_rfl)
def aw95:Fact:=⟨24,[vq0,vq4],(.tup [(.row 0 0),(.int .i64 0)]),(some ⟨3,1,(.ints .i64 [0,20,30,80])⟩)⟩
theorem ZAG:vFO aw95:=Zaf (n:=100000) (l:=[aw75,aw78,aw79,aw82,aw83,aw86,aw87,aw90,aw91,aw94]) follows Zah ⟨ZrJ,⟨ZnK,⟨Zxr,⟨Zn7,⟨ZBa,⟨Zw0,⟨Zw5,⟨Zz9,⟨ZAe,⟨ZyZ,trivial⟩⟩⟩⟩⟩⟩⟩⟩⟩⟩ (by kernel_rfl)
def aw96:Fact:=⟨87,[(.int .i64 (-1)),(.eptr vq10 0)],(.bool false),none⟩
theorem ZAg:vFO aw96:=Zaf (n:=100000) (l:=[]) follows Zah trivial (by kernel_rfl)
def aw97:Fact:=⟨137,[vq6,(.fn 87 [(.eptr vq10 0)])],(.int .i64 (-1)),none⟩
theorem ZyX:vFO aw97:=Zaf (n:=100000) (l:=[aw96]) follows Zah ⟨ZAg,trivial⟩ (by kernel_rfl)
def aw98:Fact:=⟨90,[vq6,(.fn 87 [(.eptr vq10 0)])],(.bool false),none⟩
theorem Zz4:vFO aw98:=Zaf (n:=100000) (l:=[aw97]) follows Zah ⟨ZyX,trivial⟩ (by kernel_rfl)
def aw99:Fact:=⟨67,[(.list (.ints .i64 [0,0,0,0,0,0]))],(.int .i64 0),none⟩
theorem ZBc:vFO aw99:=Zaf (n:=100000) (l:=[]) follows Zah trivial (by kernel_rfl)
def aw100:Fact:=⟨42,[vq0,vq10,(.int .i64 1)],(.tup [(.str [99,111,108,100]),(.int .i64 0)]),none⟩
theorem Zu9:vFO aw100:=Zaf (n:=100000) (l:=[aw51,aw37,aw20,aw55,aw41,aw1,aw98,aw36,aw53,aw99]) follows Zah ⟨ZqT,⟨Zsy,⟨Zdw,⟨Zsw,⟨Zcl,⟨Zrn,⟨Zz4,⟨ZiH,⟨Ziy,⟨ZBc,trivial⟩⟩⟩⟩⟩⟩⟩⟩⟩⟩ (by kernel_rfl)
def aw101:Fact:=⟨82,[(.int .i64 2),(.int .i64 1),(.int .i64 6)],(.bool true),none⟩
theorem Zuo:vFO aw101:=Zaf (n:=100000) (l:=[]) follows Zah trivial (by kernel_rfl)
def aw102:Fact:=⟨36,[vq14],(.int .i64 0),none⟩
theorem Zpn:vFO aw102:=Zaf (n:=100000) (l:=[aw75,aw101,aw41,aw3]) follows Zah ⟨ZrJ,⟨Zuo,⟨Zcl,⟨Zpc,trivial⟩⟩⟩⟩ (by kernel_rfl)
def aw103:Fact:=⟨83,[],(.agg (.gen [(.str [112,97,115,115]),(.int .i64 1),(.int .i64 1000000000000),(.fn 127 []),(.str [115,101,110,100]),(.int .i64 0),(.int .i64 11),(.fn 128 []),(.str [97,114,114,105,118,101]),(.int .i64 0),(.int .i64 5),(.fn 129 []),(.str [104,101,97,114]),(.int .i64 0),(.int .i64 5),(.fn 130 []),(.str [108,111,115,101]),(.int .i64 0),(.int .i64 5),(.fn 131 []),(.str [100,114,111,112]),(.int .i64 0),(.int .i64 5),(.fn 132 []),(.str [114,101,112,101,97,116]),(.int .i64 0),(.int .i64 5),(.fn 133 []),(.str [114,101,115,116,97,114,116]),(.int .i64 0),(.int .i64 0),(.fn 134 []),(.str [114,101,98,111,111,116]),(.int .i64 0),(.int .i64 0),(.fn 135 [])])),none⟩
theorem ZcR:vFO aw103:=Zaf (n:=100000) (l:=[]) follows Zah trivial (by kernel_rfl)
def aw104:Fact:=⟨82,[(.int .i64 1),(.int .i64 0),(.int .i64 8)],(.bool true),none⟩
theorem ZuU:vFO aw104:=Zaf (n:=100000) (l:=[]) follows Zah trivial (by kernel_rfl)
def aw105:Fact:=⟨82,[(.int .i64 0),(.int .i64 0),(.int .i64 11)],(.bool true),none⟩
theorem Zvm:vFO aw105:=Zaf (n:=100000) (l:=[]) follows Zah trivial (by kernel_rfl)
def aw106:Fact:=⟨37,[vq18],(.int .i64 0),none⟩
theorem Zoi:vFO aw106:=Zaf (n:=100000) (l:=[aw103,aw104,aw105,aw41]) follows Zah ⟨ZcR,⟨ZuU,⟨Zvm,⟨Zcl,trivial⟩⟩⟩⟩ (by kernel_rfl)
def aw107:Fact:=⟨68,[(.bool true),(.int .i64 21)],(.int .i64 0),none⟩
theorem Zox:vFO aw107:=Zaf (n:=100000) (l:=[]) follows Zah trivial (by kernel_rfl)
def aw108:Fact:=⟨82,[(.int .i64 0),(.int .i64 0),(.int .i64 1)],(.bool true),none⟩
theorem Zon:vFO aw108:=Zaf (n:=100000) (l:=[]) follows Zah trivial (by kernel_rfl)
def aw109:Fact:=⟨68,[(.bool true),(.int .i64 26)],(.int .i64 0),none⟩
theorem Zoy:vFO aw109:=Zaf (n:=100000) (l:=[]) follows Zah trivial (by kernel_rfl)
def aw110:Fact:=⟨68,[(.bool true),(.int .i64 16)],(.int .i64 0),none⟩
theorem Zpp:vFO aw110:=Zaf (n:=100000) (l:=[]) follows Zah trivial (by kernel_rfl)
def aw111:Fact:=⟨67,[(.list (.ints .i64 [0,0,0,0]))],(.int .i64 0),none⟩
theorem Zoz:vFO aw111:=Zaf (n:=100000) (l:=[]) follows Zah trivial (by kernel_rfl)
def aw112:Fact:=⟨82,[(.int .i64 2),(.int .i64 0),(.int .i64 8)],(.bool true),none⟩
theorem Zvc:vFO aw112:=Zaf (n:=100000) (l:=[]) follows Zah trivial (by kernel_rfl)
def aw113:Fact:=⟨82,[(.int .i64 0),(.int .i64 0),(.int .i64 5)],(.bool true),none⟩
theorem Zk2:vFO aw113:=Zaf (n:=100000) (l:=[]) follows Zah trivial (by kernel_rfl)
def aw114:Fact:=⟨37,[vq19],(.int .i64 0),none⟩
theorem ZoK:vFO aw114:=Zaf (n:=100000) (l:=[aw103,aw112,aw113,aw41]) follows Zah ⟨ZcR,⟨Zvc,⟨Zk2,⟨Zcl,trivial⟩⟩⟩⟩ (by kernel_rfl)
def aw115:Fact:=⟨82,[(.int .i64 5),(.int .i64 0),(.int .i64 8)],(.bool true),none⟩
theorem Zua:vFO aw115:=Zaf (n:=100000) (l:=[]) follows Zah trivial (by kernel_rfl)
def aw116:Fact:=⟨37,[vq21],(.int .i64 0),none⟩
theorem Zpv:vFO aw116:=Zaf (n:=100000) (l:=[aw103,aw115,aw113,aw41]) follows Zah ⟨ZcR,⟨Zua,⟨Zk2,⟨Zcl,trivial⟩⟩⟩⟩ (by kernel_rfl)
def aw117:Fact:=⟨82,[(.int .i64 3),(.int .i64 0),(.int .i64 8)],(.bool true),none⟩
theorem Zuc:vFO aw117:=Zaf (n:=100000) (l:=[]) follows Zah trivial (by kernel_rfl)
def aw118:Fact:=⟨37,[vq22],(.int .i64 0),none⟩
theorem Zo1:vFO aw118:=Zaf (n:=100000) (l:=[aw103,aw117,aw113,aw41]) follows Zah ⟨ZcR,⟨Zuc,⟨Zk2,⟨Zcl,trivial⟩⟩⟩⟩ (by kernel_rfl)
def aw119:Fact:=⟨15,[vq14,(.list (.big (.agg [(.int .i64),(.int .i64)]) [vq18,vq19,vq21,vq18,vq19,vq22]))],(.tup [(.agg (.gen [(.int .i64 0),(.int .i64 1),vq9,(.bool false),(.int .i64 1),(.bool false),(.list (.ints .i64 [])),(.list (.big (.agg [(.int .i64), .bool]) []))])),(.int .i64 0),(.int .i64 0)]),none⟩
theorem ZvB:vFO aw119:=Zop (n:=100000) (d:=3) (l:=[aw102,aw2,aw3,aw78,aw106,aw103,aw20,aw107,aw108,aw109,aw110,aw111,aw114,aw82,aw116,aw118]) follows Zah ⟨Zpn,⟨Zpg,⟨Zpc,⟨ZnK,⟨Zoi,⟨ZcR,⟨Zdw,⟨Zox,⟨Zon,⟨Zoy,⟨Zpp,⟨Zoz,⟨ZoK,⟨Zn7,⟨Zpv,⟨Zo1,trivial⟩⟩⟩⟩⟩⟩⟩⟩⟩⟩⟩⟩⟩⟩⟩⟩ (by kernel_rfl)
def aw120:Fact:=⟨29,[vq25,vq25],(.bool true),none⟩
theorem ZtE:vFO aw120:=Zaf (n:=100000) (l:=[]) follows Zah trivial (by kernel_rfl)
def aw121:Fact:=⟨22,[vq9,vq9],(.bool true),none⟩
theorem ZtT:vFO aw121:=Zaf (n:=100000) (l:=[]) follows Zah trivial (by kernel_rfl)
def aw122:Fact:=⟨82,[(.int .i64 0),(.int .i64 0),(.int .i64 8)],(.bool true),none⟩
theorem ZuH:vFO aw122:=Zaf (n:=100000) (l:=[]) follows Zah trivial (by kernel_rfl)
def aw123:Fact:=⟨198,[(.int .i64 20)],(.str [50,48]),none⟩
theorem ZuE:vFO aw123:=Zaf (n:=100000) (l:=[]) follows Zah trivial (by kernel_rfl)
def aw124:Fact:=⟨183,[(.int .i64 20),(.int .i64 10)],(.str [50,48]),none⟩
theorem Zuf:vFO aw124:=Zaf (n:=100000) (l:=[aw123]) follows Zah ⟨ZuE,trivial⟩ (by kernel_rfl)
def aw125:Fact:=⟨166,[(.int .i64 20)],(.str [50,48]),none⟩
theorem Zu6:vFO aw125:=Zaf (n:=100000) (l:=[aw124]) follows Zah ⟨Zuf,trivial⟩ (by kernel_rfl)
def aw126:Fact:=⟨138,[(.int .i64 20)],(.str [50,48]),none⟩
theorem ZtP:vFO aw126:=Zaf (n:=100000) (l:=[aw125]) follows Zah ⟨Zu6,trivial⟩ (by kernel_rfl)
def aw127:Fact:=⟨113,[(.list (.big .str [(.str [50,48])])),(.str [32])],(.str [50,48]),none⟩
theorem Zvv:vFO aw127:=Zaf (n:=100000) (l:=[]) follows Zah trivial (by kernel_rfl)
def aw128:Fact:=⟨105,[(.list (.ints .i64 [20]))],(.str [50,48]),none⟩
theorem ZtW:vFO aw128:=Zaf (n:=100000) (l:=[aw126,aw127]) follows Zah ⟨ZtP,⟨Zvv,trivial⟩⟩ (by kernel_rfl)
def aw129:Fact:=⟨53,[(.agg (.gen [(.int .i64 0),(.int .i64 20)]))],(.str [112,97,115,115,32,50,48]),none⟩
theorem ZuW:vFO aw129:=Zaf (n:=100000) (l:=[aw103,aw122,aw128]) follows Zah ⟨ZcR,⟨ZuH,⟨ZtW,trivial⟩⟩⟩ (by kernel_rfl)
def aw130:Fact:=⟨13,[],(.bool true),none⟩
theorem Zt7:vFO aw130:=Zop (n:=100000) (d:=3) (l:=[aw0,aw95,aw100,aw119,aw102,aw2,aw3,aw78,aw106,aw103,aw20,aw107,aw108,aw109,aw110,aw111,aw114,aw82,aw116,aw118,aw120,aw121,aw129]) follows Zah ⟨ZC6,⟨ZAG,⟨Zu9,⟨ZvB,⟨Zpn,⟨Zpg,⟨Zpc,⟨ZnK,⟨Zoi,⟨ZcR,⟨Zdw,⟨Zox,⟨Zon,⟨Zoy,⟨Zpp,⟨Zoz,⟨ZoK,⟨Zn7,⟨Zpv,⟨Zo1,⟨ZtE,⟨ZtT,⟨ZuW,trivial⟩⟩⟩⟩⟩⟩⟩⟩⟩⟩⟩⟩⟩⟩⟩⟩⟩⟩⟩⟩⟩⟩⟩ (by kernel_rfl)
theorem awake_ok:vFO aw130:=Zt7
end Go.Proofs.YtkeoeooghhjibaaGreatDoor
namespace Go.Proofs.YtkeoeooghhjibaaGreatDoor
theorem Zux(ms ks rs:zA)(h:ZaC ms ks rs=true):Zan Tryz.prog 65 [vM ms ks rs] (.int .i64 (ZaN ms ks rs)) none:=
 start (Zxo ms ks rs) fun C hC=>tgo hC ZF0 ZIB (by simp[ZDv,h])
def pI:AV→Int
 | .tup [.int _ i,_]=>i
 |_=>0
def pE:AV→Int
 | .tup [_, .int _ e]=>e
 |_=>0
def isP(v:AV):Prop:=∃i e,v=Zn6 i e
theorem isP.eq{v:AV}(h:isP v):v=Zn6 (pI v) (pE v):=by
 obtain⟨i,e,rfl⟩:=h
 rfl
theorem ZmG{f:Nat→Int} :∀m k,isP (Zgx f m k)
 |0,_=>⟨_,_,rfl⟩
 |m+1,k=>by
  unfold Zgx
  split
  ·exact ZmG m (k+1)
  ·exact⟨_,_,rfl⟩
theorem ZuV(e n:Int)(l:zA):isP (ZfV e n l):=by
 unfold ZfV
 split
 ·exact ZmG _ _
 ·exact⟨_,_,rfl⟩
def ZnU(e n:Int)(l:zA):Int:=pI (ZfV e n l)
def Zdc(e n:Int)(l:zA):Int:=pE (ZfV e n l)
theorem Zsk(e n:Int)(l:zA):ZfV e n l=.tup [.int .i64 (ZnU e n l), .int .i64 (Zdc e n l)]:=(ZuV e n l).eq
theorem ZoT{e n:Int}{l:zA}(h:e≠0):ZnU e n l=0∧Zdc e n l=e:=by
 have:ZhG e l=e:=by simp[ZhG,Zae,h]
 simp[ZnU,Zdc,ZfV,this,h,Zn6,pI,pE]
theorem Zq2(ms ks rs l:zA)(hs:ZaC ms ks rs=true∧l.length≤1000000):Zan Tryz.prog 71 [vM ms ks rs, .list (.big (.agg [.int .i64, .int .i64, .int .i64]) l)] (.tup [.int .i64 (ZnU (ZaN ms ks rs) ks.length l), .int .i64 (Zdc (ZaN ms ks rs) ks.length l)]) none:=by
 rw[←Zsk]
 exact ZuA ms ks rs l hs.1 hs.2
theorem Zqd(ms ks rs l:zA)(hs:ks.length≤1000000∧l.length≤1000000):Zan Tryz.prog 76 [vM ms ks rs, .list (.big (.agg [.int .i64, .int .i64, .int .i64]) l)] (.tup [.int .i64 (ZnU 0 ks.length l), .int .i64 (Zdc 0 ks.length l)]) none:=by
 rw[←Zsk]
 exact Zr7 ms ks rs l hs.1 hs.2
def k65:Ctr:=⟨65,0,fun _ a=>match a with |[.agg (.gen [.list (.big .str ms), .list (.big (.agg [.str, .int .i64]) ks), .list (.big (.agg [.str, .int .i64, .int .i64, .int .i64, .int .i64]) rs)])]=>some (decide (ZaC ms ks rs=true), .int .i64 (ZaN ms ks rs),none) |_=>none⟩
theorem ZC9:k65.OK Tryz.prog:=fun pa args r fr h=>by
 simp only[k65]at h
 split at h
 ·simp only[zS,zP,decide_eq_true_eq]at h
  obtain⟨h0,rfl,rfl⟩:=h
  exact Zux _ _ _ h0
 ·cases h
def k71:Ctr:=⟨71,0,fun _ a=>match a with |[.agg (.gen [.list (.big .str ms), .list (.big (.agg [.str, .int .i64]) ks), .list (.big (.agg [.str, .int .i64, .int .i64, .int .i64, .int .i64]) rs)]), .list (.big (.agg [.int .i64, .int .i64, .int .i64]) l)]=>some (decide (ZaC ms ks rs=true∧l.length≤1000000), .tup [.int .i64 (ZnU (ZaN ms ks rs) ks.length l), .int .i64 (Zdc (ZaN ms ks rs) ks.length l)],none) |_=>none⟩
theorem ZEy:k71.OK Tryz.prog:=fun pa args r fr h=>by
 simp only[k71]at h
 split at h
 ·simp only[zS,zP,decide_eq_true_eq]at h
  obtain⟨h0,rfl,rfl⟩:=h
  exact Zq2 _ _ _ _ h0
 ·cases h
def k76:Ctr:=⟨76,0,fun _ a=>match a with |[.agg (.gen [.list (.big .str _), .list (.big (.agg [.str, .int .i64]) ks), .list (.big (.agg [.str, .int .i64, .int .i64, .int .i64, .int .i64]) _)]), .list (.big (.agg [.int .i64, .int .i64, .int .i64]) l)]=>some (decide (ks.length≤1000000∧l.length≤1000000), .tup [.int .i64 (ZnU 0 ks.length l), .int .i64 (Zdc 0 ks.length l)],none) |_=>none⟩
theorem ZE5:k76.OK Tryz.prog:=fun pa args r fr h=>by
 simp only[k76]at h
 split at h
 ·simp only[zS,zP,decide_eq_true_eq]at h
  obtain⟨h0,rfl,rfl⟩:=h
  exact Zqd _ _ _ _ h0
 ·cases h
def k13:Ctr:=⟨13,0,fun _ a=>match a with |[]=>some (true, .bool true,none) |_=>none⟩
theorem ZDq:k13.OK Tryz.prog:=fun pa args r fr h=>by
 simp only[k13]at h
 split at h
 ·cases h
  exact awake_ok
 ·cases h
def B8:List Ctr:=[k65,k71,k76,k13]++B7
theorem Zb8:ZaF Tryz.prog B8:=⟨ZC9,⟨ZEy,⟨ZE5,⟨ZDq,ZF0⟩⟩⟩⟩
end Go.Proofs.YtkeoeooghhjibaaGreatDoor
