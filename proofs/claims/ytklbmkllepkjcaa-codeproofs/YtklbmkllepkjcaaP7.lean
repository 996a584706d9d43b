/- Calls at given values. Printed by facts.py. -/
import Derived.Test.YtklbmkllepkjcaaP8
import Derived.KernelRfl
namespace Go.Proofs.Ytklbmkllepkjcaa
set_option maxRecDepth 1000000
def aw0:Fact:=⟨58,[],(.agg (.gen [(.int .i64 2),(.int .i64 7),(.int .i64 5)])),none⟩
theorem ZBI:Zai Try.prog aw0.f aw0.args aw0.r aw0.fr:=Zab (n:=100000) (l:=[]) follows Zad trivial (by kernel_rfl)
def aw1:Fact:=⟨59,[],(.row 0 0),(some ⟨3,1,(.ints .i64 [(-1),(-1),1,1,(-1),(-1),1,1])⟩)⟩
theorem Zy8:Zai Try.prog aw1.f aw1.args aw1.r aw1.fr:=Zab (n:=100000) (l:=[]) follows Zad trivial (by kernel_rfl)
def aw2:Fact:=⟨91,[(.int .i64 2),(.int .i64 1),(.int .i64 3)],(.bool true),none⟩
theorem ZyQ:Zai Try.prog aw2.f aw2.args aw2.r aw2.fr:=Zab (n:=100000) (l:=[]) follows Zad trivial (by kernel_rfl)
def aw3:Fact:=⟨91,[(.int .i64 7),(.int .i64 1),(.int .i64 7)],(.bool true),none⟩
theorem ZCL:Zai Try.prog aw3.f aw3.args aw3.r aw3.fr:=Zab (n:=100000) (l:=[]) follows Zad trivial (by kernel_rfl)
def aw4:Fact:=⟨111,[(.int .i64 7),(.eptr (.int .i64 1) 0),(.eptr (.int .i64 7) 0)],(.bool false),none⟩
theorem ZAS:Zai Try.prog aw4.f aw4.args aw4.r aw4.fr:=Zab (n:=100000) (l:=[aw3]) follows Zad ⟨ZCL,trivial⟩ (by kernel_rfl)
def aw5:Fact:=⟨91,[(.int .i64 5),(.int .i64 1),(.int .i64 7)],(.bool true),none⟩
theorem ZAT:Zai Try.prog aw5.f aw5.args aw5.r aw5.fr:=Zab (n:=100000) (l:=[]) follows Zad trivial (by kernel_rfl)
def aw6:Fact:=⟨111,[(.int .i64 5),(.eptr (.int .i64 1) 0),(.eptr (.int .i64 7) 0)],(.bool false),none⟩
theorem Zzg:Zai Try.prog aw6.f aw6.args aw6.r aw6.fr:=Zab (n:=100000) (l:=[aw5]) follows Zad ⟨ZAT,trivial⟩ (by kernel_rfl)
def aw7:Fact:=⟨123,[(.list (.ints .i64 [7,5])),(.fn 111 [(.eptr (.int .i64 1) 0),(.eptr (.int .i64 7) 0)])],(.int .i64 (-1)),none⟩
theorem ZBN:Zai Try.prog aw7.f aw7.args aw7.r aw7.fr:=Zab (n:=100000) (l:=[aw4,aw6]) follows Zad ⟨ZAS,⟨Zzg,trivial⟩⟩ (by kernel_rfl)
def aw8:Fact:=⟨110,[(.list (.ints .i64 [7,5])),(.fn 111 [(.eptr (.int .i64 1) 0),(.eptr (.int .i64 7) 0)])],(.bool false),none⟩
theorem ZBV:Zai Try.prog aw8.f aw8.args aw8.r aw8.fr:=Zab (n:=100000) (l:=[aw7]) follows Zad ⟨ZBN,trivial⟩ (by kernel_rfl)
def aw9:Fact:=⟨85,[(.bool true),(.int .i64 2)],(.int .i64 0),none⟩
theorem ZhW:Zai Try.prog aw9.f aw9.args aw9.r aw9.fr:=Zab (n:=100000) (l:=[]) follows Zad trivial (by kernel_rfl)
def aw10:Fact:=⟨70,[(.list (.ints .i64 [7,5])),(.int .i64 1),(.int .i64 7)],(.int .i64 0),none⟩
theorem ZxH:Zai Try.prog aw10.f aw10.args aw10.r aw10.fr:=Zab (n:=100000) (l:=[aw8,aw9]) follows Zad ⟨ZBV,⟨ZhW,trivial⟩⟩ (by kernel_rfl)
def aw11:Fact:=⟨63,[(.agg (.gen [(.int .i64 2),(.int .i64 7),(.int .i64 5)]))],(.int .i64 0),none⟩
theorem Zrs:Zai Try.prog aw11.f aw11.args aw11.r aw11.fr:=Zab (n:=100000) (l:=[aw2,aw10]) follows Zad ⟨ZyQ,⟨ZxH,trivial⟩⟩ (by kernel_rfl)
def aw12:Fact:=⟨85,[(.bool true),(.int .i64 10)],(.int .i64 0),none⟩
theorem ZlR:Zai Try.prog aw12.f aw12.args aw12.r aw12.fr:=Zab (n:=100000) (l:=[]) follows Zad trivial (by kernel_rfl)
def aw13:Fact:=⟨85,[(.bool true),(.int .i64 8)],(.int .i64 0),none⟩
theorem Zqe:Zai Try.prog aw13.f aw13.args aw13.r aw13.fr:=Zab (n:=100000) (l:=[]) follows Zad trivial (by kernel_rfl)
def aw14:Fact:=⟨91,[(.int .i64 (-1)),(.int .i64 (-7)),(.int .i64 7)],(.bool true),none⟩
theorem Zyk:Zai Try.prog aw14.f aw14.args aw14.r aw14.fr:=Zab (n:=100000) (l:=[]) follows Zad trivial (by kernel_rfl)
def aw15:Fact:=⟨111,[(.int .i64 (-1)),(.eptr (.int .i64 (-7)) 0),(.eptr (.int .i64 7) 0)],(.bool false),none⟩
theorem Zx4:Zai Try.prog aw15.f aw15.args aw15.r aw15.fr:=Zab (n:=100000) (l:=[aw14]) follows Zad ⟨Zyk,trivial⟩ (by kernel_rfl)
def aw16:Fact:=⟨91,[(.int .i64 1),(.int .i64 (-7)),(.int .i64 7)],(.bool true),none⟩
theorem Zv2:Zai Try.prog aw16.f aw16.args aw16.r aw16.fr:=Zab (n:=100000) (l:=[]) follows Zad trivial (by kernel_rfl)
def aw17:Fact:=⟨111,[(.int .i64 1),(.eptr (.int .i64 (-7)) 0),(.eptr (.int .i64 7) 0)],(.bool false),none⟩
theorem Zww:Zai Try.prog aw17.f aw17.args aw17.r aw17.fr:=Zab (n:=100000) (l:=[aw16]) follows Zad ⟨Zv2,trivial⟩ (by kernel_rfl)
def aw18:Fact:=⟨123,[(.list (.ints .i64 [(-1),(-1),1,1,(-1),(-1),1,1])),(.fn 111 [(.eptr (.int .i64 (-7)) 0),(.eptr (.int .i64 7) 0)])],(.int .i64 (-1)),none⟩
theorem ZxL:Zai Try.prog aw18.f aw18.args aw18.r aw18.fr:=Zab (n:=100000) (l:=[aw15,aw17]) follows Zad ⟨Zx4,⟨Zww,trivial⟩⟩ (by kernel_rfl)
def aw19:Fact:=⟨110,[(.list (.ints .i64 [(-1),(-1),1,1,(-1),(-1),1,1])),(.fn 111 [(.eptr (.int .i64 (-7)) 0),(.eptr (.int .i64 7) 0)])],(.bool false),none⟩
theorem Zxg:Zai Try.prog aw19.f aw19.args aw19.r aw19.fr:=Zab (n:=100000) (l:=[aw18]) follows Zad ⟨ZxL,trivial⟩ (by kernel_rfl)
def aw20:Fact:=⟨70,[(.list (.ints .i64 [(-1),(-1),1,1,(-1),(-1),1,1])),(.int .i64 (-7)),(.int .i64 7)],(.int .i64 0),none⟩
theorem Zvk:Zai Try.prog aw20.f aw20.args aw20.r aw20.fr:=Zab (n:=100000) (l:=[aw19,aw9]) follows Zad ⟨Zxg,⟨ZhW,trivial⟩⟩ (by kernel_rfl)
def aw21:Fact:=⟨72,[(.list (.ints .i64 [0,0,0]))],(.int .i64 0),none⟩
theorem Zrq:Zai Try.prog aw21.f aw21.args aw21.r aw21.fr:=Zab (n:=100000) (l:=[]) follows Zad trivial (by kernel_rfl)
def aw22:Fact:=⟨64,[(.agg (.gen [(.int .i64 2),(.int .i64 7),(.int .i64 5)])),(.list (.ints .i64 [(-1),(-1),1,1,(-1),(-1),1,1]))],(.int .i64 0),none⟩
theorem Zv6:Zai Try.prog aw22.f aw22.args aw22.r aw22.fr:=Zab (n:=100000) (l:=[aw12,aw13,aw20,aw21]) follows Zad ⟨ZlR,⟨Zqe,⟨Zvk,⟨Zrq,trivial⟩⟩⟩⟩ (by kernel_rfl)
def aw23:Fact:=⟨84,[(.agg (.gen [(.int .i64 2),(.int .i64 7),(.int .i64 5),(.list (.ints .i64 [(-1),(-1),1,1,(-1),(-1),1,1]))]))],(.int .i64 4),none⟩
theorem ZpG:Zai Try.prog aw23.f aw23.args aw23.r aw23.fr:=Zab (n:=100000) (l:=[]) follows Zad trivial (by kernel_rfl)
def aw24:Fact:=⟨86,[(.agg (.gen [(.int .i64 2),(.int .i64 7),(.int .i64 5),(.list (.ints .i64 [(-1),(-1),1,1,(-1),(-1),1,1]))]))],(.int .i64 4),none⟩
theorem Zvm:Zai Try.prog aw24.f aw24.args aw24.r aw24.fr:=Zab (n:=100000) (l:=[]) follows Zad trivial (by kernel_rfl)
def aw25:Fact:=⟨127,[(.int .u64 1),(.int .u64 4)],(.tup [(.int .u64 0),(.int .u64 4)]),none⟩
theorem Zvi:Zai Try.prog aw25.f aw25.args aw25.r aw25.fr:=Zab (n:=100000) (l:=[]) follows Zad trivial (by kernel_rfl)
def aw26:Fact:=⟨114,[(.int .u64 1),(.int .u64 4)],(.tup [(.int .u64 0),(.int .u64 4)]),none⟩
theorem Zqk:Zai Try.prog aw26.f aw26.args aw26.r aw26.fr:=Zab (n:=100000) (l:=[aw25]) follows Zad ⟨Zvi,trivial⟩ (by kernel_rfl)
def aw27:Fact:=⟨122,[(.list (.flts .f32 [3351465984])),(.int .i64 4)],(.row 0 0),(some ⟨118,1,(.flts .f32 [3351465984,3351465984,3351465984,3351465984])⟩)⟩
theorem ZwO:Zai Try.prog aw27.f aw27.args aw27.r aw27.fr:=Zab (n:=100000) (l:=[aw26]) follows Zad ⟨Zqk,trivial⟩ (by kernel_rfl)
def aw28:Fact:=⟨125,[(.int .u64 0)],(.int .i64 0),none⟩
theorem ZxI:Zai Try.prog aw28.f aw28.args aw28.r aw28.fr:=Zab (n:=100000) (l:=[]) follows Zad trivial (by kernel_rfl)
def aw29:Fact:=⟨113,[(.int .u64 0)],(.int .i64 0),none⟩
theorem Zpl:Zai Try.prog aw29.f aw29.args aw29.r aw29.fr:=Zab (n:=100000) (l:=[aw28]) follows Zad ⟨ZxI,trivial⟩ (by kernel_rfl)
def aw30:Fact:=⟨82,[(.agg (.gen [(.int .i64 2),(.int .i64 7),(.int .i64 5)])),(.int .i64 0),(.int .i64 0)],(.tup [(.int .i64 0),(.agg (.ints .i64 [0,0]))]),none⟩
theorem Zyc:Zai Try.prog aw30.f aw30.args aw30.r aw30.fr:=Zab (n:=100000) (l:=[aw29]) follows Zad ⟨Zpl,trivial⟩ (by kernel_rfl)
def aw31:Fact:=⟨89,[(.int .i64 0),(.int .i64 1)],(.int .i64 1),none⟩
theorem Zv1:Zai Try.prog aw31.f aw31.args aw31.r aw31.fr:=Zab (n:=100000) (l:=[]) follows Zad trivial (by kernel_rfl)
def aw32:Fact:=⟨108,[(.agg (.gen [(.int .i64 2),(.int .i64 7),(.int .i64 5),(.list (.ints .i64 [(-1),(-1),1,1,(-1),(-1),1,1]))]))],(.int .i64 2),none⟩
theorem Zwj:Zai Try.prog aw32.f aw32.args aw32.r aw32.fr:=Zab (n:=100000) (l:=[aw23]) follows Zad ⟨ZpG,trivial⟩ (by kernel_rfl)
def aw33:Fact:=⟨125,[(.int .u64 1)],(.int .i64 1),none⟩
theorem Zx5:Zai Try.prog aw33.f aw33.args aw33.r aw33.fr:=Zab (n:=100000) (l:=[]) follows Zad trivial (by kernel_rfl)
def aw34:Fact:=⟨113,[(.int .u64 1)],(.int .i64 1),none⟩
theorem Zqn:Zai Try.prog aw34.f aw34.args aw34.r aw34.fr:=Zab (n:=100000) (l:=[aw33]) follows Zad ⟨Zx5,trivial⟩ (by kernel_rfl)
def aw35:Fact:=⟨82,[(.agg (.gen [(.int .i64 2),(.int .i64 7),(.int .i64 5)])),(.int .i64 1),(.int .i64 0)],(.tup [(.int .i64 0),(.agg (.ints .i64 [1,1]))]),none⟩
theorem Zqs:Zai Try.prog aw35.f aw35.args aw35.r aw35.fr:=Zab (n:=100000) (l:=[aw34]) follows Zad ⟨Zqn,trivial⟩ (by kernel_rfl)
def aw36:Fact:=⟨89,[(.int .i64 1),(.int .i64 1)],(.int .i64 (-1)),none⟩
theorem Zwd:Zai Try.prog aw36.f aw36.args aw36.r aw36.fr:=Zab (n:=100000) (l:=[]) follows Zad trivial (by kernel_rfl)
def aw37:Fact:=⟨125,[(.int .u64 2)],(.int .i64 1),none⟩
theorem ZvX:Zai Try.prog aw37.f aw37.args aw37.r aw37.fr:=Zab (n:=100000) (l:=[]) follows Zad trivial (by kernel_rfl)
def aw38:Fact:=⟨113,[(.int .u64 2)],(.int .i64 1),none⟩
theorem ZwD:Zai Try.prog aw38.f aw38.args aw38.r aw38.fr:=Zab (n:=100000) (l:=[aw37]) follows Zad ⟨ZvX,trivial⟩ (by kernel_rfl)
def aw39:Fact:=⟨82,[(.agg (.gen [(.int .i64 2),(.int .i64 7),(.int .i64 5)])),(.int .i64 2),(.int .i64 0)],(.tup [(.int .i64 1),(.agg (.ints .i64 [1,0]))]),none⟩
theorem Zrr:Zai Try.prog aw39.f aw39.args aw39.r aw39.fr:=Zab (n:=100000) (l:=[aw38,aw29]) follows Zad ⟨ZwD,⟨Zpl,trivial⟩⟩ (by kernel_rfl)
def aw40:Fact:=⟨125,[(.int .u64 3)],(.int .i64 2),none⟩
theorem Zw0:Zai Try.prog aw40.f aw40.args aw40.r aw40.fr:=Zab (n:=100000) (l:=[]) follows Zad trivial (by kernel_rfl)
def aw41:Fact:=⟨113,[(.int .u64 3)],(.int .i64 2),none⟩
theorem Zv8:Zai Try.prog aw41.f aw41.args aw41.r aw41.fr:=Zab (n:=100000) (l:=[aw40]) follows Zad ⟨Zw0,trivial⟩ (by kernel_rfl)
def aw42:Fact:=⟨82,[(.agg (.gen [(.int .i64 2),(.int .i64 7),(.int .i64 5)])),(.int .i64 3),(.int .i64 0)],(.tup [(.int .i64 1),(.agg (.ints .i64 [0,1]))]),none⟩
theorem ZqG:Zai Try.prog aw42.f aw42.args aw42.r aw42.fr:=Zab (n:=100000) (l:=[aw41,aw34]) follows Zad ⟨Zv8,⟨Zqn,trivial⟩⟩ (by kernel_rfl)
def aw43:Fact:=⟨89,[(.int .i64 0),(.int .i64 (-1))],(.int .i64 (-1)),none⟩
theorem ZvW:Zai Try.prog aw43.f aw43.args aw43.r aw43.fr:=Zab (n:=100000) (l:=[]) follows Zad trivial (by kernel_rfl)
def aw44:Fact:=⟨89,[(.int .i64 1),(.int .i64 (-1))],(.int .i64 1),none⟩
theorem ZvC:Zai Try.prog aw44.f aw44.args aw44.r aw44.fr:=Zab (n:=100000) (l:=[]) follows Zad trivial (by kernel_rfl)
def aw45:Fact:=⟨125,[(.int .u64 4)],(.int .i64 1),none⟩
theorem Zwr:Zai Try.prog aw45.f aw45.args aw45.r aw45.fr:=Zab (n:=100000) (l:=[]) follows Zad trivial (by kernel_rfl)
def aw46:Fact:=⟨113,[(.int .u64 4)],(.int .i64 1),none⟩
theorem Zqg:Zai Try.prog aw46.f aw46.args aw46.r aw46.fr:=Zab (n:=100000) (l:=[aw45]) follows Zad ⟨Zwr,trivial⟩ (by kernel_rfl)
def aw47:Fact:=⟨82,[(.agg (.gen [(.int .i64 2),(.int .i64 7),(.int .i64 5)])),(.int .i64 0),(.int .i64 1)],(.tup [(.int .i64 2),(.agg (.ints .i64 [1,1]))]),none⟩
theorem Zrf:Zai Try.prog aw47.f aw47.args aw47.r aw47.fr:=Zab (n:=100000) (l:=[aw46]) follows Zad ⟨Zqg,trivial⟩ (by kernel_rfl)
def aw48:Fact:=⟨125,[(.int .u64 5)],(.int .i64 2),none⟩
theorem Zxi:Zai Try.prog aw48.f aw48.args aw48.r aw48.fr:=Zab (n:=100000) (l:=[]) follows Zad trivial (by kernel_rfl)
def aw49:Fact:=⟨113,[(.int .u64 5)],(.int .i64 2),none⟩
theorem Zry:Zai Try.prog aw49.f aw49.args aw49.r aw49.fr:=Zab (n:=100000) (l:=[aw48]) follows Zad ⟨Zxi,trivial⟩ (by kernel_rfl)
def aw50:Fact:=⟨82,[(.agg (.gen [(.int .i64 2),(.int .i64 7),(.int .i64 5)])),(.int .i64 1),(.int .i64 1)],(.tup [(.int .i64 2),(.agg (.ints .i64 [0,0]))]),none⟩
theorem Zp4:Zai Try.prog aw50.f aw50.args aw50.r aw50.fr:=Zab (n:=100000) (l:=[aw49]) follows Zad ⟨Zry,trivial⟩ (by kernel_rfl)
def aw51:Fact:=⟨125,[(.int .u64 6)],(.int .i64 2),none⟩
theorem ZxC:Zai Try.prog aw51.f aw51.args aw51.r aw51.fr:=Zab (n:=100000) (l:=[]) follows Zad trivial (by kernel_rfl)
def aw52:Fact:=⟨113,[(.int .u64 6)],(.int .i64 2),none⟩
theorem Zxj:Zai Try.prog aw52.f aw52.args aw52.r aw52.fr:=Zab (n:=100000) (l:=[aw51]) follows Zad ⟨ZxC,trivial⟩ (by kernel_rfl)
def aw53:Fact:=⟨82,[(.agg (.gen [(.int .i64 2),(.int .i64 7),(.int .i64 5)])),(.int .i64 2),(.int .i64 1)],(.tup [(.int .i64 3),(.agg (.ints .i64 [0,1]))]),none⟩
theorem ZpH:Zai Try.prog aw53.f aw53.args aw53.r aw53.fr:=Zab (n:=100000) (l:=[aw52,aw46]) follows Zad ⟨Zxj,⟨Zqg,trivial⟩⟩ (by kernel_rfl)
def aw54:Fact:=⟨125,[(.int .u64 7)],(.int .i64 3),none⟩
theorem ZvA:Zai Try.prog aw54.f aw54.args aw54.r aw54.fr:=Zab (n:=100000) (l:=[]) follows Zad trivial (by kernel_rfl)
def aw55:Fact:=⟨113,[(.int .u64 7)],(.int .i64 3),none⟩
theorem Zvz:Zai Try.prog aw55.f aw55.args aw55.r aw55.fr:=Zab (n:=100000) (l:=[aw54]) follows Zad ⟨ZvA,trivial⟩ (by kernel_rfl)
def aw56:Fact:=⟨82,[(.agg (.gen [(.int .i64 2),(.int .i64 7),(.int .i64 5)])),(.int .i64 3),(.int .i64 1)],(.tup [(.int .i64 3),(.agg (.ints .i64 [1,0]))]),none⟩
theorem Zp1:Zai Try.prog aw56.f aw56.args aw56.r aw56.fr:=Zab (n:=100000) (l:=[aw55,aw49]) follows Zad ⟨Zvz,⟨Zry,trivial⟩⟩ (by kernel_rfl)
def aw57:Fact:=⟨65,[(.agg (.gen [(.int .i64 2),(.int .i64 7),(.int .i64 5),(.list (.ints .i64 [(-1),(-1),1,1,(-1),(-1),1,1]))]))],(.tup [(.row 0 0),(.int .i64 6)]),(some ⟨3,1,(.ints .i64 [1,0])⟩)⟩
theorem ZwH:Zai Try.prog aw57.f aw57.args aw57.r aw57.fr:=Zab (n:=100000) (l:=[aw23,aw24,aw27,aw30,aw31,aw32,aw35,aw36,aw39,aw42,aw43,aw44,aw47,aw50,aw53,aw56]) follows Zad ⟨ZpG,⟨Zvm,⟨ZwO,⟨Zyc,⟨Zv1,⟨Zwj,⟨Zqs,⟨Zwd,⟨Zrr,⟨ZqG,⟨ZvW,⟨ZvC,⟨Zrf,⟨Zp4,⟨ZpH,⟨Zp1,trivial⟩⟩⟩⟩⟩⟩⟩⟩⟩⟩⟩⟩⟩⟩⟩⟩ (by kernel_rfl)
def aw58:Fact:=⟨13,[(.agg (.gen [(.int .i64 2),(.int .i64 7),(.int .i64 5)])),(.list (.ints .i64 [(-1),(-1),1,1,(-1),(-1),1,1]))],(.tup [(.row 0 0),(.int .i64 6),(.int .i64 0)]),(some ⟨3,1,(.ints .i64 [1,0])⟩)⟩
theorem Zxs:Zai Try.prog aw58.f aw58.args aw58.r aw58.fr:=Zab (n:=100000) (l:=[aw11,aw22,aw57]) follows Zad ⟨Zrs,⟨Zv6,⟨ZwH,trivial⟩⟩⟩ (by kernel_rfl)
def aw59:Fact:=⟨60,[(.int .i64 1)],(.row 0 0),(some ⟨3,1,(.ints .i64 [0,0,0,0,0,0,0,0,0,0,0,0,1])⟩)⟩
theorem ZvJ:Zai Try.prog aw59.f aw59.args aw59.r aw59.fr:=Zab (n:=100000) (l:=[]) follows Zad trivial (by kernel_rfl)
def aw60:Fact:=⟨91,[(.int .i64 1),(.int .i64 1),(.int .i64 3)],(.bool true),none⟩
theorem Zxy:Zai Try.prog aw60.f aw60.args aw60.r aw60.fr:=Zab (n:=100000) (l:=[]) follows Zad trivial (by kernel_rfl)
def aw61:Fact:=⟨73,[(.int .i64 1)],(.int .i64 0),none⟩
theorem Zye:Zai Try.prog aw61.f aw61.args aw61.r aw61.fr:=Zab (n:=100000) (l:=[aw60,aw9]) follows Zad ⟨Zxy,⟨ZhW,trivial⟩⟩ (by kernel_rfl)
def aw62:Fact:=⟨91,[(.int .i64 0),(.int .i64 0),(.int .i64 15)],(.bool true),none⟩
theorem Zwx:Zai Try.prog aw62.f aw62.args aw62.r aw62.fr:=Zab (n:=100000) (l:=[]) follows Zad trivial (by kernel_rfl)
def aw63:Fact:=⟨111,[(.int .i64 0),(.eptr (.int .i64 0) 0),(.eptr (.int .i64 15) 0)],(.bool false),none⟩
theorem ZwE:Zai Try.prog aw63.f aw63.args aw63.r aw63.fr:=Zab (n:=100000) (l:=[aw62]) follows Zad ⟨Zwx,trivial⟩ (by kernel_rfl)
def aw64:Fact:=⟨91,[(.int .i64 1),(.int .i64 0),(.int .i64 15)],(.bool true),none⟩
theorem ZvY:Zai Try.prog aw64.f aw64.args aw64.r aw64.fr:=Zab (n:=100000) (l:=[]) follows Zad trivial (by kernel_rfl)
def aw65:Fact:=⟨111,[(.int .i64 1),(.eptr (.int .i64 0) 0),(.eptr (.int .i64 15) 0)],(.bool false),none⟩
theorem ZwA:Zai Try.prog aw65.f aw65.args aw65.r aw65.fr:=Zab (n:=100000) (l:=[aw64]) follows Zad ⟨ZvY,trivial⟩ (by kernel_rfl)
def aw66:Fact:=⟨123,[(.list (.ints .i64 [0,0,0,0,0,0,0,0,0,0,0,0,1])),(.fn 111 [(.eptr (.int .i64 0) 0),(.eptr (.int .i64 15) 0)])],(.int .i64 (-1)),none⟩
theorem ZvB:Zai Try.prog aw66.f aw66.args aw66.r aw66.fr:=Zab (n:=100000) (l:=[aw63,aw65]) follows Zad ⟨ZwE,⟨ZwA,trivial⟩⟩ (by kernel_rfl)
def aw67:Fact:=⟨110,[(.list (.ints .i64 [0,0,0,0,0,0,0,0,0,0,0,0,1])),(.fn 111 [(.eptr (.int .i64 0) 0),(.eptr (.int .i64 15) 0)])],(.bool false),none⟩
theorem Zxb:Zai Try.prog aw67.f aw67.args aw67.r aw67.fr:=Zab (n:=100000) (l:=[aw66]) follows Zad ⟨ZvB,trivial⟩ (by kernel_rfl)
def aw68:Fact:=⟨70,[(.list (.ints .i64 [0,0,0,0,0,0,0,0,0,0,0,0,1])),(.int .i64 0),(.int .i64 15)],(.int .i64 0),none⟩
theorem ZwU:Zai Try.prog aw68.f aw68.args aw68.r aw68.fr:=Zab (n:=100000) (l:=[aw67,aw9]) follows Zad ⟨Zxb,⟨ZhW,trivial⟩⟩ (by kernel_rfl)
def aw69:Fact:=⟨72,[(.list (.ints .i64 [0,0]))],(.int .i64 0),none⟩
theorem Zj2:Zai Try.prog aw69.f aw69.args aw69.r aw69.fr:=Zab (n:=100000) (l:=[]) follows Zad trivial (by kernel_rfl)
def aw70:Fact:=⟨74,[(.list (.ints .i64 [0,0,0,0,0,0,0,0,0,0,0,0,1])),(.int .i64 13)],(.int .i64 0),none⟩
theorem ZxY:Zai Try.prog aw70.f aw70.args aw70.r aw70.fr:=Zab (n:=100000) (l:=[aw12,aw68,aw69]) follows Zad ⟨ZlR,⟨ZwU,⟨Zj2,trivial⟩⟩⟩ (by kernel_rfl)
def aw71:Fact:=⟨71,[(.int .i64 1),(.int .i64 2)],(.int .i64 2),none⟩
theorem ZaN:Zai Try.prog aw71.f aw71.args aw71.r aw71.fr:=Zab (n:=100000) (l:=[]) follows Zad trivial (by kernel_rfl)
def aw72:Fact:=⟨71,[(.int .i64 2),(.int .i64 2)],(.int .i64 4),none⟩
theorem ZaR:Zai Try.prog aw72.f aw72.args aw72.r aw72.fr:=Zab (n:=100000) (l:=[]) follows Zad trivial (by kernel_rfl)
def aw73:Fact:=⟨71,[(.int .i64 4),(.int .i64 2)],(.int .i64 8),none⟩
theorem Za0:Zai Try.prog aw73.f aw73.args aw73.r aw73.fr:=Zab (n:=100000) (l:=[]) follows Zad trivial (by kernel_rfl)
def aw74:Fact:=⟨71,[(.int .i64 8),(.int .i64 2)],(.int .i64 3),none⟩
theorem Zbe:Zai Try.prog aw74.f aw74.args aw74.r aw74.fr:=Zab (n:=100000) (l:=[]) follows Zad trivial (by kernel_rfl)
def aw75:Fact:=⟨71,[(.int .i64 3),(.int .i64 2)],(.int .i64 6),none⟩
theorem Zbd:Zai Try.prog aw75.f aw75.args aw75.r aw75.fr:=Zab (n:=100000) (l:=[]) follows Zad trivial (by kernel_rfl)
def aw76:Fact:=⟨71,[(.int .i64 6),(.int .i64 2)],(.int .i64 12),none⟩
theorem ZbA:Zai Try.prog aw76.f aw76.args aw76.r aw76.fr:=Zab (n:=100000) (l:=[]) follows Zad trivial (by kernel_rfl)
def aw77:Fact:=⟨71,[(.int .i64 12),(.int .i64 2)],(.int .i64 11),none⟩
theorem ZbN:Zai Try.prog aw77.f aw77.args aw77.r aw77.fr:=Zab (n:=100000) (l:=[]) follows Zad trivial (by kernel_rfl)
def aw78:Fact:=⟨71,[(.int .i64 11),(.int .i64 2)],(.int .i64 5),none⟩
theorem Zci:Zai Try.prog aw78.f aw78.args aw78.r aw78.fr:=Zab (n:=100000) (l:=[]) follows Zad trivial (by kernel_rfl)
def aw79:Fact:=⟨71,[(.int .i64 5),(.int .i64 2)],(.int .i64 10),none⟩
theorem ZcF:Zai Try.prog aw79.f aw79.args aw79.r aw79.fr:=Zab (n:=100000) (l:=[]) follows Zad trivial (by kernel_rfl)
def aw80:Fact:=⟨71,[(.int .i64 10),(.int .i64 2)],(.int .i64 7),none⟩
theorem Zel:Zai Try.prog aw80.f aw80.args aw80.r aw80.fr:=Zab (n:=100000) (l:=[]) follows Zad trivial (by kernel_rfl)
def aw81:Fact:=⟨71,[(.int .i64 7),(.int .i64 2)],(.int .i64 14),none⟩
theorem Zfq:Zai Try.prog aw81.f aw81.args aw81.r aw81.fr:=Zab (n:=100000) (l:=[]) follows Zad trivial (by kernel_rfl)
def aw82:Fact:=⟨71,[(.int .i64 14),(.int .i64 2)],(.int .i64 15),none⟩
theorem Zkc:Zai Try.prog aw82.f aw82.args aw82.r aw82.fr:=Zab (n:=100000) (l:=[]) follows Zad trivial (by kernel_rfl)
def aw83:Fact:=⟨71,[(.int .i64 15),(.int .i64 2)],(.int .i64 13),none⟩
theorem ZmI:Zai Try.prog aw83.f aw83.args aw83.r aw83.fr:=Zab (n:=100000) (l:=[]) follows Zad trivial (by kernel_rfl)
def aw84:Fact:=⟨71,[(.int .i64 13),(.int .i64 2)],(.int .i64 9),none⟩
theorem ZwC:Zai Try.prog aw84.f aw84.args aw84.r aw84.fr:=Zab (n:=100000) (l:=[]) follows Zad trivial (by kernel_rfl)
def aw85:Fact:=⟨117,[(.int .i64 14)],(.int .i64 9),none⟩
theorem ZqX:Zai Try.prog aw85.f aw85.args aw85.r aw85.fr:=Zab (n:=100000) (l:=[aw71,aw72,aw73,aw74,aw75,aw76,aw77,aw78,aw79,aw80,aw81,aw82,aw83,aw84]) follows Zad ⟨ZaN,⟨ZaR,⟨Za0,⟨Zbe,⟨Zbd,⟨ZbA,⟨ZbN,⟨Zci,⟨ZcF,⟨Zel,⟨Zfq,⟨Zkc,⟨ZmI,⟨ZwC,trivial⟩⟩⟩⟩⟩⟩⟩⟩⟩⟩⟩⟩⟩⟩ (by kernel_rfl)
def aw86:Fact:=⟨71,[(.int .i64 0),(.int .i64 9)],(.int .i64 0),none⟩
theorem ZlK:Zai Try.prog aw86.f aw86.args aw86.r aw86.fr:=Zab (n:=100000) (l:=[]) follows Zad trivial (by kernel_rfl)
def aw87:Fact:=⟨117,[(.int .i64 13)],(.int .i64 13),none⟩
theorem Zwf:Zai Try.prog aw87.f aw87.args aw87.r aw87.fr:=Zab (n:=100000) (l:=[aw71,aw72,aw73,aw74,aw75,aw76,aw77,aw78,aw79,aw80,aw81,aw82,aw83]) follows Zad ⟨ZaN,⟨ZaR,⟨Za0,⟨Zbe,⟨Zbd,⟨ZbA,⟨ZbN,⟨Zci,⟨ZcF,⟨Zel,⟨Zfq,⟨Zkc,⟨ZmI,trivial⟩⟩⟩⟩⟩⟩⟩⟩⟩⟩⟩⟩⟩ (by kernel_rfl)
def aw88:Fact:=⟨71,[(.int .i64 0),(.int .i64 13)],(.int .i64 0),none⟩
theorem Zrn:Zai Try.prog aw88.f aw88.args aw88.r aw88.fr:=Zab (n:=100000) (l:=[]) follows Zad trivial (by kernel_rfl)
def aw89:Fact:=⟨117,[(.int .i64 12)],(.int .i64 15),none⟩
theorem Zrh:Zai Try.prog aw89.f aw89.args aw89.r aw89.fr:=Zab (n:=100000) (l:=[aw71,aw72,aw73,aw74,aw75,aw76,aw77,aw78,aw79,aw80,aw81,aw82]) follows Zad ⟨ZaN,⟨ZaR,⟨Za0,⟨Zbe,⟨Zbd,⟨ZbA,⟨ZbN,⟨Zci,⟨ZcF,⟨Zel,⟨Zfq,⟨Zkc,trivial⟩⟩⟩⟩⟩⟩⟩⟩⟩⟩⟩⟩ (by kernel_rfl)
def aw90:Fact:=⟨71,[(.int .i64 0),(.int .i64 15)],(.int .i64 0),none⟩
theorem ZpJ:Zai Try.prog aw90.f aw90.args aw90.r aw90.fr:=Zab (n:=100000) (l:=[]) follows Zad trivial (by kernel_rfl)
def aw91:Fact:=⟨117,[(.int .i64 11)],(.int .i64 14),none⟩
theorem ZvR:Zai Try.prog aw91.f aw91.args aw91.r aw91.fr:=Zab (n:=100000) (l:=[aw71,aw72,aw73,aw74,aw75,aw76,aw77,aw78,aw79,aw80,aw81]) follows Zad ⟨ZaN,⟨ZaR,⟨Za0,⟨Zbe,⟨Zbd,⟨ZbA,⟨ZbN,⟨Zci,⟨ZcF,⟨Zel,⟨Zfq,trivial⟩⟩⟩⟩⟩⟩⟩⟩⟩⟩⟩ (by kernel_rfl)
def aw92:Fact:=⟨71,[(.int .i64 0),(.int .i64 14)],(.int .i64 0),none⟩
theorem Zl4:Zai Try.prog aw92.f aw92.args aw92.r aw92.fr:=Zab (n:=100000) (l:=[]) follows Zad trivial (by kernel_rfl)
def aw93:Fact:=⟨117,[(.int .i64 10)],(.int .i64 7),none⟩
theorem ZpW:Zai Try.prog aw93.f aw93.args aw93.r aw93.fr:=Zab (n:=100000) (l:=[aw71,aw72,aw73,aw74,aw75,aw76,aw77,aw78,aw79,aw80]) follows Zad ⟨ZaN,⟨ZaR,⟨Za0,⟨Zbe,⟨Zbd,⟨ZbA,⟨ZbN,⟨Zci,⟨ZcF,⟨Zel,trivial⟩⟩⟩⟩⟩⟩⟩⟩⟩⟩ (by kernel_rfl)
def aw94:Fact:=⟨71,[(.int .i64 0),(.int .i64 7)],(.int .i64 0),none⟩
theorem Zqd:Zai Try.prog aw94.f aw94.args aw94.r aw94.fr:=Zab (n:=100000) (l:=[]) follows Zad trivial (by kernel_rfl)
def aw95:Fact:=⟨117,[(.int .i64 9)],(.int .i64 10),none⟩
theorem Zv5:Zai Try.prog aw95.f aw95.args aw95.r aw95.fr:=Zab (n:=100000) (l:=[aw71,aw72,aw73,aw74,aw75,aw76,aw77,aw78,aw79]) follows Zad ⟨ZaN,⟨ZaR,⟨Za0,⟨Zbe,⟨Zbd,⟨ZbA,⟨ZbN,⟨Zci,⟨ZcF,trivial⟩⟩⟩⟩⟩⟩⟩⟩⟩ (by kernel_rfl)
def aw96:Fact:=⟨71,[(.int .i64 0),(.int .i64 10)],(.int .i64 0),none⟩
theorem Zp8:Zai Try.prog aw96.f aw96.args aw96.r aw96.fr:=Zab (n:=100000) (l:=[]) follows Zad trivial (by kernel_rfl)
def aw97:Fact:=⟨117,[(.int .i64 8)],(.int .i64 5),none⟩
theorem Zqt:Zai Try.prog aw97.f aw97.args aw97.r aw97.fr:=Zab (n:=100000) (l:=[aw71,aw72,aw73,aw74,aw75,aw76,aw77,aw78]) follows Zad ⟨ZaN,⟨ZaR,⟨Za0,⟨Zbe,⟨Zbd,⟨ZbA,⟨ZbN,⟨Zci,trivial⟩⟩⟩⟩⟩⟩⟩⟩ (by kernel_rfl)
def aw98:Fact:=⟨71,[(.int .i64 0),(.int .i64 5)],(.int .i64 0),none⟩
theorem ZqV:Zai Try.prog aw98.f aw98.args aw98.r aw98.fr:=Zab (n:=100000) (l:=[]) follows Zad trivial (by kernel_rfl)
def aw99:Fact:=⟨117,[(.int .i64 7)],(.int .i64 11),none⟩
theorem Zwe:Zai Try.prog aw99.f aw99.args aw99.r aw99.fr:=Zab (n:=100000) (l:=[aw71,aw72,aw73,aw74,aw75,aw76,aw77]) follows Zad ⟨ZaN,⟨ZaR,⟨Za0,⟨Zbe,⟨Zbd,⟨ZbA,⟨ZbN,trivial⟩⟩⟩⟩⟩⟩⟩ (by kernel_rfl)
def aw100:Fact:=⟨71,[(.int .i64 0),(.int .i64 11)],(.int .i64 0),none⟩
theorem ZnB:Zai Try.prog aw100.f aw100.args aw100.r aw100.fr:=Zab (n:=100000) (l:=[]) follows Zad trivial (by kernel_rfl)
def aw101:Fact:=⟨117,[(.int .i64 6)],(.int .i64 12),none⟩
theorem ZmW:Zai Try.prog aw101.f aw101.args aw101.r aw101.fr:=Zab (n:=100000) (l:=[aw71,aw72,aw73,aw74,aw75,aw76]) follows Zad ⟨ZaN,⟨ZaR,⟨Za0,⟨Zbe,⟨Zbd,⟨ZbA,trivial⟩⟩⟩⟩⟩⟩ (by kernel_rfl)
def aw102:Fact:=⟨71,[(.int .i64 0),(.int .i64 12)],(.int .i64 0),none⟩
theorem ZnD:Zai Try.prog aw102.f aw102.args aw102.r aw102.fr:=Zab (n:=100000) (l:=[]) follows Zad trivial (by kernel_rfl)
def aw103:Fact:=⟨117,[(.int .i64 5)],(.int .i64 6),none⟩
theorem ZtF:Zai Try.prog aw103.f aw103.args aw103.r aw103.fr:=Zab (n:=100000) (l:=[aw71,aw72,aw73,aw74,aw75]) follows Zad ⟨ZaN,⟨ZaR,⟨Za0,⟨Zbe,⟨Zbd,trivial⟩⟩⟩⟩⟩ (by kernel_rfl)
def aw104:Fact:=⟨71,[(.int .i64 0),(.int .i64 6)],(.int .i64 0),none⟩
theorem ZmX:Zai Try.prog aw104.f aw104.args aw104.r aw104.fr:=Zab (n:=100000) (l:=[]) follows Zad trivial (by kernel_rfl)
def aw105:Fact:=⟨117,[(.int .i64 4)],(.int .i64 3),none⟩
theorem ZnF:Zai Try.prog aw105.f aw105.args aw105.r aw105.fr:=Zab (n:=100000) (l:=[aw71,aw72,aw73,aw74]) follows Zad ⟨ZaN,⟨ZaR,⟨Za0,⟨Zbe,trivial⟩⟩⟩⟩ (by kernel_rfl)
def aw106:Fact:=⟨71,[(.int .i64 0),(.int .i64 3)],(.int .i64 0),none⟩
theorem Zt5:Zai Try.prog aw106.f aw106.args aw106.r aw106.fr:=Zab (n:=100000) (l:=[]) follows Zad trivial (by kernel_rfl)
def aw107:Fact:=⟨117,[(.int .i64 3)],(.int .i64 8),none⟩
theorem Zti:Zai Try.prog aw107.f aw107.args aw107.r aw107.fr:=Zab (n:=100000) (l:=[aw71,aw72,aw73]) follows Zad ⟨ZaN,⟨ZaR,⟨Za0,trivial⟩⟩⟩ (by kernel_rfl)
def aw108:Fact:=⟨71,[(.int .i64 0),(.int .i64 8)],(.int .i64 0),none⟩
theorem ZnP:Zai Try.prog aw108.f aw108.args aw108.r aw108.fr:=Zab (n:=100000) (l:=[]) follows Zad trivial (by kernel_rfl)
def aw109:Fact:=⟨117,[(.int .i64 2)],(.int .i64 4),none⟩
theorem Zkb:Zai Try.prog aw109.f aw109.args aw109.r aw109.fr:=Zab (n:=100000) (l:=[aw71,aw72]) follows Zad ⟨ZaN,⟨ZaR,trivial⟩⟩ (by kernel_rfl)
def aw110:Fact:=⟨71,[(.int .i64 1),(.int .i64 4)],(.int .i64 4),none⟩
theorem ZnK:Zai Try.prog aw110.f aw110.args aw110.r aw110.fr:=Zab (n:=100000) (l:=[]) follows Zad trivial (by kernel_rfl)
def aw111:Fact:=⟨117,[(.int .i64 1)],(.int .i64 2),none⟩
theorem ZnG:Zai Try.prog aw111.f aw111.args aw111.r aw111.fr:=Zab (n:=100000) (l:=[aw71]) follows Zad ⟨ZaN,trivial⟩ (by kernel_rfl)
def aw112:Fact:=⟨71,[(.int .i64 0),(.int .i64 2)],(.int .i64 0),none⟩
theorem Znx:Zai Try.prog aw112.f aw112.args aw112.r aw112.fr:=Zab (n:=100000) (l:=[]) follows Zad trivial (by kernel_rfl)
def aw113:Fact:=⟨117,[(.int .i64 0)],(.int .i64 1),none⟩
theorem ZjM:Zai Try.prog aw113.f aw113.args aw113.r aw113.fr:=Zab (n:=100000) (l:=[]) follows Zad trivial (by kernel_rfl)
def aw114:Fact:=⟨71,[(.int .i64 0),(.int .i64 1)],(.int .i64 0),none⟩
theorem Zn0:Zai Try.prog aw114.f aw114.args aw114.r aw114.fr:=Zab (n:=100000) (l:=[]) follows Zad trivial (by kernel_rfl)
def aw115:Fact:=⟨112,[(.agg (.ints .i64 [0,0,0,0,0,0,0,0,0,0,0,0,1,0,0])),(.int .i64 1)],(.int .i64 4),none⟩
theorem Zso:Zai Try.prog aw115.f aw115.args aw115.r aw115.fr:=Zab (n:=100000) (l:=[aw85,aw86,aw87,aw88,aw89,aw90,aw91,aw92,aw93,aw94,aw95,aw96,aw97,aw98,aw99,aw100,aw101,aw102,aw103,aw104,aw105,aw106,aw107,aw108,aw109,aw110,aw111,aw112,aw113,aw114]) follows Zad ⟨ZqX,⟨ZlK,⟨Zwf,⟨Zrn,⟨Zrh,⟨ZpJ,⟨ZvR,⟨Zl4,⟨ZpW,⟨Zqd,⟨Zv5,⟨Zp8,⟨Zqt,⟨ZqV,⟨Zwe,⟨ZnB,⟨ZmW,⟨ZnD,⟨ZtF,⟨ZmX,⟨ZnF,⟨Zt5,⟨Zti,⟨ZnP,⟨Zkb,⟨ZnK,⟨ZnG,⟨Znx,⟨ZjM,⟨Zn0,trivial⟩⟩⟩⟩⟩⟩⟩⟩⟩⟩⟩⟩⟩⟩⟩⟩⟩⟩⟩⟩⟩⟩⟩⟩⟩⟩⟩⟩⟩⟩ (by kernel_rfl)
def aw116:Fact:=⟨117,[(.int .i64 28)],(.int .i64 13),none⟩
theorem ZrC:Zai Try.prog aw116.f aw116.args aw116.r aw116.fr:=Zab (n:=100000) (l:=[aw71,aw72,aw73,aw74,aw75,aw76,aw77,aw78,aw79,aw80,aw81,aw82,aw83]) follows Zad ⟨ZaN,⟨ZaR,⟨Za0,⟨Zbe,⟨Zbd,⟨ZbA,⟨ZbN,⟨Zci,⟨ZcF,⟨Zel,⟨Zfq,⟨Zkc,⟨ZmI,trivial⟩⟩⟩⟩⟩⟩⟩⟩⟩⟩⟩⟩⟩ (by kernel_rfl)
def aw117:Fact:=⟨117,[(.int .i64 26)],(.int .i64 14),none⟩
theorem Ztm:Zai Try.prog aw117.f aw117.args aw117.r aw117.fr:=Zab (n:=100000) (l:=[aw71,aw72,aw73,aw74,aw75,aw76,aw77,aw78,aw79,aw80,aw81]) follows Zad ⟨ZaN,⟨ZaR,⟨Za0,⟨Zbe,⟨Zbd,⟨ZbA,⟨ZbN,⟨Zci,⟨ZcF,⟨Zel,⟨Zfq,trivial⟩⟩⟩⟩⟩⟩⟩⟩⟩⟩⟩ (by kernel_rfl)
def aw118:Fact:=⟨117,[(.int .i64 24)],(.int .i64 10),none⟩
theorem ZrT:Zai Try.prog aw118.f aw118.args aw118.r aw118.fr:=Zab (n:=100000) (l:=[aw71,aw72,aw73,aw74,aw75,aw76,aw77,aw78,aw79]) follows Zad ⟨ZaN,⟨ZaR,⟨Za0,⟨Zbe,⟨Zbd,⟨ZbA,⟨ZbN,⟨Zci,⟨ZcF,trivial⟩⟩⟩⟩⟩⟩⟩⟩⟩ (by kernel_rfl)
def aw119:Fact:=⟨117,[(.int .i64 22)],(.int .i64 11),none⟩
theorem ZsF:Zai Try.prog aw119.f aw119.args aw119.r aw119.fr:=Zab (n:=100000) (l:=[aw71,aw72,aw73,aw74,aw75,aw76,aw77]) follows Zad ⟨ZaN,⟨ZaR,⟨Za0,⟨Zbe,⟨Zbd,⟨ZbA,⟨ZbN,trivial⟩⟩⟩⟩⟩⟩⟩ (by kernel_rfl)
def aw120:Fact:=⟨117,[(.int .i64 20)],(.int .i64 6),none⟩
theorem ZrB:Zai Try.prog aw120.f aw120.args aw120.r aw120.fr:=Zab (n:=100000) (l:=[aw71,aw72,aw73,aw74,aw75]) follows Zad ⟨ZaN,⟨ZaR,⟨Za0,⟨Zbe,⟨Zbd,trivial⟩⟩⟩⟩⟩ (by kernel_rfl)
def aw121:Fact:=⟨117,[(.int .i64 18)],(.int .i64 8),none⟩
theorem ZrH:Zai Try.prog aw121.f aw121.args aw121.r aw121.fr:=Zab (n:=100000) (l:=[aw71,aw72,aw73]) follows Zad ⟨ZaN,⟨ZaR,⟨Za0,trivial⟩⟩⟩ (by kernel_rfl)
def aw122:Fact:=⟨117,[(.int .i64 16)],(.int .i64 2),none⟩
theorem ZtJ:Zai Try.prog aw122.f aw122.args aw122.r aw122.fr:=Zab (n:=100000) (l:=[aw71]) follows Zad ⟨ZaN,trivial⟩ (by kernel_rfl)
def aw123:Fact:=⟨71,[(.int .i64 1),(.int .i64 3)],(.int .i64 3),none⟩
theorem ZtN:Zai Try.prog aw123.f aw123.args aw123.r aw123.fr:=Zab (n:=100000) (l:=[]) follows Zad trivial (by kernel_rfl)
def aw124:Fact:=⟨71,[(.int .i64 0),(.int .i64 4)],(.int .i64 0),none⟩
theorem Zsb:Zai Try.prog aw124.f aw124.args aw124.r aw124.fr:=Zab (n:=100000) (l:=[]) follows Zad trivial (by kernel_rfl)
def aw125:Fact:=⟨112,[(.agg (.ints .i64 [0,0,0,0,0,0,0,0,0,0,0,0,1,0,0])),(.int .i64 2)],(.int .i64 3),none⟩
theorem Ztr:Zai Try.prog aw125.f aw125.args aw125.r aw125.fr:=Zab (n:=100000) (l:=[aw116,aw88,aw117,aw92,aw118,aw96,aw119,aw100,aw120,aw104,aw121,aw108,aw122,aw112,aw85,aw86,aw89,aw90,aw93,aw94,aw97,aw98,aw101,aw102,aw105,aw123,aw109,aw124,aw113,aw114]) follows Zad ⟨ZrC,⟨Zrn,⟨Ztm,⟨Zl4,⟨ZrT,⟨Zp8,⟨ZsF,⟨ZnB,⟨ZrB,⟨ZmX,⟨ZrH,⟨ZnP,⟨ZtJ,⟨Znx,⟨ZqX,⟨ZlK,⟨Zrh,⟨ZpJ,⟨ZpW,⟨Zqd,⟨Zqt,⟨ZqV,⟨ZmW,⟨ZnD,⟨ZnF,⟨ZtN,⟨Zkb,⟨Zsb,⟨ZjM,⟨Zn0,trivial⟩⟩⟩⟩⟩⟩⟩⟩⟩⟩⟩⟩⟩⟩⟩⟩⟩⟩⟩⟩⟩⟩⟩⟩⟩⟩⟩⟩⟩⟩ (by kernel_rfl)
def aw126:Fact:=⟨75,[(.agg (.ints .i64 [0,0,0,0,0,0,0,0,0,0,0,0,1,0,0])),(.int .i64 1)],(.row 0 0),(some ⟨3,1,(.ints .i64 [4,3])⟩)⟩
theorem ZtT:Zai Try.prog aw126.f aw126.args aw126.r aw126.fr:=Zab (n:=100000) (l:=[aw115,aw125]) follows Zad ⟨Zso,⟨Ztr,trivial⟩⟩ (by kernel_rfl)
def aw127:Fact:=⟨71,[(.int .i64 2),(.int .i64 1)],(.int .i64 2),none⟩
theorem ZrO:Zai Try.prog aw127.f aw127.args aw127.r aw127.fr:=Zab (n:=100000) (l:=[]) follows Zad trivial (by kernel_rfl)
def aw128:Fact:=⟨71,[(.int .i64 2),(.int .i64 3)],(.int .i64 6),none⟩
theorem Zs3:Zai Try.prog aw128.f aw128.args aw128.r aw128.fr:=Zab (n:=100000) (l:=[]) follows Zad trivial (by kernel_rfl)
def aw129:Fact:=⟨71,[(.int .i64 2),(.int .i64 4)],(.int .i64 8),none⟩
theorem Zng:Zai Try.prog aw129.f aw129.args aw129.r aw129.fr:=Zab (n:=100000) (l:=[]) follows Zad trivial (by kernel_rfl)
def aw130:Fact:=⟨71,[(.int .i64 2),(.int .i64 5)],(.int .i64 10),none⟩
theorem Zuc:Zai Try.prog aw130.f aw130.args aw130.r aw130.fr:=Zab (n:=100000) (l:=[]) follows Zad trivial (by kernel_rfl)
def aw131:Fact:=⟨71,[(.int .i64 2),(.int .i64 6)],(.int .i64 12),none⟩
theorem ZtO:Zai Try.prog aw131.f aw131.args aw131.r aw131.fr:=Zab (n:=100000) (l:=[]) follows Zad trivial (by kernel_rfl)
def aw132:Fact:=⟨71,[(.int .i64 2),(.int .i64 7)],(.int .i64 14),none⟩
theorem ZsD:Zai Try.prog aw132.f aw132.args aw132.r aw132.fr:=Zab (n:=100000) (l:=[]) follows Zad trivial (by kernel_rfl)
def aw133:Fact:=⟨71,[(.int .i64 2),(.int .i64 8)],(.int .i64 3),none⟩
theorem Zsd:Zai Try.prog aw133.f aw133.args aw133.r aw133.fr:=Zab (n:=100000) (l:=[]) follows Zad trivial (by kernel_rfl)
def aw134:Fact:=⟨71,[(.int .i64 2),(.int .i64 9)],(.int .i64 1),none⟩
theorem Zny:Zai Try.prog aw134.f aw134.args aw134.r aw134.fr:=Zab (n:=100000) (l:=[]) follows Zad trivial (by kernel_rfl)
def aw135:Fact:=⟨128,[(.int .i64 2)],(.int .i64 9),none⟩
theorem ZtS:Zai Try.prog aw135.f aw135.args aw135.r aw135.fr:=Zab (n:=100000) (l:=[aw127,aw72,aw128,aw129,aw130,aw131,aw132,aw133,aw134]) follows Zad ⟨ZrO,⟨ZaR,⟨Zs3,⟨Zng,⟨Zuc,⟨ZtO,⟨ZsD,⟨Zsd,⟨Zny,trivial⟩⟩⟩⟩⟩⟩⟩⟩⟩ (by kernel_rfl)
def aw136:Fact:=⟨71,[(.int .i64 1),(.int .i64 9)],(.int .i64 9),none⟩
theorem ZrG:Zai Try.prog aw136.f aw136.args aw136.r aw136.fr:=Zab (n:=100000) (l:=[]) follows Zad trivial (by kernel_rfl)
def aw137:Fact:=⟨71,[(.int .i64 4),(.int .i64 9)],(.int .i64 2),none⟩
theorem Zsv:Zai Try.prog aw137.f aw137.args aw137.r aw137.fr:=Zab (n:=100000) (l:=[]) follows Zad trivial (by kernel_rfl)
def aw138:Fact:=⟨71,[(.int .i64 9),(.int .i64 4)],(.int .i64 2),none⟩
theorem Ztb:Zai Try.prog aw138.f aw138.args aw138.r aw138.fr:=Zab (n:=100000) (l:=[]) follows Zad trivial (by kernel_rfl)
def aw139:Fact:=⟨71,[(.int .i64 3),(.int .i64 1)],(.int .i64 3),none⟩
theorem ZtX:Zai Try.prog aw139.f aw139.args aw139.r aw139.fr:=Zab (n:=100000) (l:=[]) follows Zad trivial (by kernel_rfl)
def aw140:Fact:=⟨71,[(.int .i64 3),(.int .i64 3)],(.int .i64 5),none⟩
theorem ZtK:Zai Try.prog aw140.f aw140.args aw140.r aw140.fr:=Zab (n:=100000) (l:=[]) follows Zad trivial (by kernel_rfl)
def aw141:Fact:=⟨71,[(.int .i64 3),(.int .i64 4)],(.int .i64 12),none⟩
theorem Zr3:Zai Try.prog aw141.f aw141.args aw141.r aw141.fr:=Zab (n:=100000) (l:=[]) follows Zad trivial (by kernel_rfl)
def aw142:Fact:=⟨71,[(.int .i64 3),(.int .i64 5)],(.int .i64 15),none⟩
theorem Zto:Zai Try.prog aw142.f aw142.args aw142.r aw142.fr:=Zab (n:=100000) (l:=[]) follows Zad trivial (by kernel_rfl)
def aw143:Fact:=⟨71,[(.int .i64 3),(.int .i64 6)],(.int .i64 10),none⟩
theorem Zs6:Zai Try.prog aw143.f aw143.args aw143.r aw143.fr:=Zab (n:=100000) (l:=[]) follows Zad trivial (by kernel_rfl)
def aw144:Fact:=⟨71,[(.int .i64 3),(.int .i64 7)],(.int .i64 9),none⟩
theorem ZrZ:Zai Try.prog aw144.f aw144.args aw144.r aw144.fr:=Zab (n:=100000) (l:=[]) follows Zad trivial (by kernel_rfl)
def aw145:Fact:=⟨71,[(.int .i64 3),(.int .i64 8)],(.int .i64 11),none⟩
theorem ZsX:Zai Try.prog aw145.f aw145.args aw145.r aw145.fr:=Zab (n:=100000) (l:=[]) follows Zad trivial (by kernel_rfl)
def aw146:Fact:=⟨71,[(.int .i64 3),(.int .i64 9)],(.int .i64 8),none⟩
theorem ZtI:Zai Try.prog aw146.f aw146.args aw146.r aw146.fr:=Zab (n:=100000) (l:=[]) follows Zad trivial (by kernel_rfl)
def aw147:Fact:=⟨71,[(.int .i64 3),(.int .i64 10)],(.int .i64 13),none⟩
theorem Zr5:Zai Try.prog aw147.f aw147.args aw147.r aw147.fr:=Zab (n:=100000) (l:=[]) follows Zad trivial (by kernel_rfl)
def aw148:Fact:=⟨71,[(.int .i64 3),(.int .i64 11)],(.int .i64 14),none⟩
theorem ZtW:Zai Try.prog aw148.f aw148.args aw148.r aw148.fr:=Zab (n:=100000) (l:=[]) follows Zad trivial (by kernel_rfl)
def aw149:Fact:=⟨71,[(.int .i64 3),(.int .i64 12)],(.int .i64 7),none⟩
theorem Zta:Zai Try.prog aw149.f aw149.args aw149.r aw149.fr:=Zab (n:=100000) (l:=[]) follows Zad trivial (by kernel_rfl)
def aw150:Fact:=⟨71,[(.int .i64 3),(.int .i64 13)],(.int .i64 4),none⟩
theorem ZsR:Zai Try.prog aw150.f aw150.args aw150.r aw150.fr:=Zab (n:=100000) (l:=[]) follows Zad trivial (by kernel_rfl)
def aw151:Fact:=⟨71,[(.int .i64 3),(.int .i64 14)],(.int .i64 1),none⟩
theorem Zm8:Zai Try.prog aw151.f aw151.args aw151.r aw151.fr:=Zab (n:=100000) (l:=[]) follows Zad trivial (by kernel_rfl)
def aw152:Fact:=⟨128,[(.int .i64 3)],(.int .i64 14),none⟩
theorem ZrX:Zai Try.prog aw152.f aw152.args aw152.r aw152.fr:=Zab (n:=100000) (l:=[aw139,aw75,aw140,aw141,aw142,aw143,aw144,aw145,aw146,aw147,aw148,aw149,aw150,aw151]) follows Zad ⟨ZtX,⟨Zbd,⟨ZtK,⟨Zr3,⟨Zto,⟨Zs6,⟨ZrZ,⟨ZsX,⟨ZtI,⟨Zr5,⟨ZtW,⟨Zta,⟨ZsR,⟨Zm8,trivial⟩⟩⟩⟩⟩⟩⟩⟩⟩⟩⟩⟩⟩⟩ (by kernel_rfl)
def aw153:Fact:=⟨71,[(.int .i64 11),(.int .i64 14)],(.int .i64 8),none⟩
theorem ZrS:Zai Try.prog aw153.f aw153.args aw153.r aw153.fr:=Zab (n:=100000) (l:=[]) follows Zad trivial (by kernel_rfl)
def aw154:Fact:=⟨71,[(.int .i64 8),(.int .i64 9)],(.int .i64 4),none⟩
theorem ZtD:Zai Try.prog aw154.f aw154.args aw154.r aw154.fr:=Zab (n:=100000) (l:=[]) follows Zad trivial (by kernel_rfl)
def aw155:Fact:=⟨92,[(.agg (.ints .i64 [0,0,0,0,0,0,0,0,0,0,0,0,1,0,0])),(.int .i64 1),(.list (.ints .i64 [13,14]))],(.tup [(.agg (.ints .i64 [0,0,0,0,0,0,0,0,0,0,0,0,1,6,8])),(.bool true)]),none⟩
theorem Zt3:Zai Try.prog aw155.f aw155.args aw155.r aw155.fr:=Zab (n:=100000) (l:=[aw126,aw111,aw113,aw109,aw135,aw134,aw136,aw137,aw110,aw138,aw129,aw152,aw92,aw151,aw153,aw86,aw154]) follows Zad ⟨ZtT,⟨ZnG,⟨ZjM,⟨Zkb,⟨ZtS,⟨Zny,⟨ZrG,⟨Zsv,⟨ZnK,⟨Ztb,⟨Zng,⟨ZrX,⟨Zl4,⟨Zm8,⟨ZrS,⟨ZlK,⟨ZtD,trivial⟩⟩⟩⟩⟩⟩⟩⟩⟩⟩⟩⟩⟩⟩⟩⟩⟩ (by kernel_rfl)
def aw156:Fact:=⟨76,[(.int .i64 1),(.list (.ints .i64 [0,0,0,0,0,0,0,0,0,0,0,0,1]))],(.agg (.ints .i64 [0,0,0,0,0,0,0,0,0,0,0,0,1,6,8])),none⟩
theorem ZtU:Zai Try.prog aw156.f aw156.args aw156.r aw156.fr:=Zab (n:=100000) (l:=[aw155]) follows Zad ⟨Zt3,trivial⟩ (by kernel_rfl)
def aw157:Fact:=⟨62,[],(.agg (.gen [(.int .i64 3),(.list (.gen [(.list (.ints .i64 [0,1])),(.list (.ints .i64 [1,2]))]))])),none⟩
theorem ZrY:Zai Try.prog aw157.f aw157.args aw157.r aw157.fr:=Zab (n:=100000) (l:=[]) follows Zad trivial (by kernel_rfl)
def aw158:Fact:=⟨91,[(.int .i64 3),(.int .i64 1),(.int .i64 24)],(.bool true),none⟩
theorem ZsK:Zai Try.prog aw158.f aw158.args aw158.r aw158.fr:=Zab (n:=100000) (l:=[]) follows Zad trivial (by kernel_rfl)
def aw159:Fact:=⟨91,[(.int .i64 0),(.int .i64 0),(.int .i64 2)],(.bool true),none⟩
theorem Zst:Zai Try.prog aw159.f aw159.args aw159.r aw159.fr:=Zab (n:=100000) (l:=[]) follows Zad trivial (by kernel_rfl)
def aw160:Fact:=⟨85,[(.bool true),(.int .i64 6)],(.int .i64 0),none⟩
theorem ZrA:Zai Try.prog aw160.f aw160.args aw160.r aw160.fr:=Zab (n:=100000) (l:=[]) follows Zad trivial (by kernel_rfl)
def aw161:Fact:=⟨85,[(.bool true),(.int .i64 9)],(.int .i64 0),none⟩
theorem Ztc:Zai Try.prog aw161.f aw161.args aw161.r aw161.fr:=Zab (n:=100000) (l:=[]) follows Zad trivial (by kernel_rfl)
def aw162:Fact:=⟨91,[(.int .i64 1),(.int .i64 0),(.int .i64 2)],(.bool true),none⟩
theorem Ztf:Zai Try.prog aw162.f aw162.args aw162.r aw162.fr:=Zab (n:=100000) (l:=[]) follows Zad trivial (by kernel_rfl)
def aw163:Fact:=⟨91,[(.int .i64 2),(.int .i64 0),(.int .i64 2)],(.bool true),none⟩
theorem Zs7:Zai Try.prog aw163.f aw163.args aw163.r aw163.fr:=Zab (n:=100000) (l:=[]) follows Zad trivial (by kernel_rfl)
def aw164:Fact:=⟨132,[(.agg (.gen [(.int .i64 3),(.list (.gen [(.list (.ints .i64 [0,1])),(.list (.ints .i64 [1,2]))]))]))],(.tup [(.int .i64 0),(.int .i64 0)]),none⟩
theorem ZrF:Zai Try.prog aw164.f aw164.args aw164.r aw164.fr:=Zab (n:=100000) (l:=[aw158,aw9,aw13,aw69,aw159,aw160,aw161,aw162,aw163]) follows Zad ⟨ZsK,⟨ZhW,⟨Zqe,⟨Zj2,⟨Zst,⟨ZrA,⟨Ztc,⟨Ztf,⟨Zs7,trivial⟩⟩⟩⟩⟩⟩⟩⟩⟩ (by kernel_rfl)
def aw165:Fact:=⟨120,[(.agg (.gen [(.int .i64 3),(.list (.gen [(.list (.ints .i64 [0,1])),(.list (.ints .i64 [1,2]))]))]))],(.int .i64 0),none⟩
theorem Zug:Zai Try.prog aw165.f aw165.args aw165.r aw165.fr:=Zab (n:=100000) (l:=[aw164]) follows Zad ⟨ZrF,trivial⟩ (by kernel_rfl)
def aw166:Fact:=⟨91,[(.int .i64 1),(.int .i64 0),(.int .i64 1)],(.bool true),none⟩
theorem Zsq:Zai Try.prog aw166.f aw166.args aw166.r aw166.fr:=Zab (n:=100000) (l:=[]) follows Zad trivial (by kernel_rfl)
def aw167:Fact:=⟨111,[(.int .i64 1),(.eptr (.int .i64 0) 0),(.eptr (.int .i64 1) 0)],(.bool false),none⟩
theorem ZrR:Zai Try.prog aw167.f aw167.args aw167.r aw167.fr:=Zab (n:=100000) (l:=[aw166]) follows Zad ⟨Zsq,trivial⟩ (by kernel_rfl)
def aw168:Fact:=⟨91,[(.int .i64 0),(.int .i64 0),(.int .i64 1)],(.bool true),none⟩
theorem Zr1:Zai Try.prog aw168.f aw168.args aw168.r aw168.fr:=Zab (n:=100000) (l:=[]) follows Zad trivial (by kernel_rfl)
def aw169:Fact:=⟨111,[(.int .i64 0),(.eptr (.int .i64 0) 0),(.eptr (.int .i64 1) 0)],(.bool false),none⟩
theorem Zsx:Zai Try.prog aw169.f aw169.args aw169.r aw169.fr:=Zab (n:=100000) (l:=[aw168]) follows Zad ⟨Zr1,trivial⟩ (by kernel_rfl)
def aw170:Fact:=⟨123,[(.list (.ints .i64 [1,0,0])),(.fn 111 [(.eptr (.int .i64 0) 0),(.eptr (.int .i64 1) 0)])],(.int .i64 (-1)),none⟩
theorem Ztp:Zai Try.prog aw170.f aw170.args aw170.r aw170.fr:=Zab (n:=100000) (l:=[aw167,aw169]) follows Zad ⟨ZrR,⟨Zsx,trivial⟩⟩ (by kernel_rfl)
def aw171:Fact:=⟨110,[(.list (.ints .i64 [1,0,0])),(.fn 111 [(.eptr (.int .i64 0) 0),(.eptr (.int .i64 1) 0)])],(.bool false),none⟩
theorem ZrW:Zai Try.prog aw171.f aw171.args aw171.r aw171.fr:=Zab (n:=100000) (l:=[aw170]) follows Zad ⟨Ztp,trivial⟩ (by kernel_rfl)
def aw172:Fact:=⟨70,[(.list (.ints .i64 [1,0,0])),(.int .i64 0),(.int .i64 1)],(.int .i64 0),none⟩
theorem ZrD:Zai Try.prog aw172.f aw172.args aw172.r aw172.fr:=Zab (n:=100000) (l:=[aw171,aw9]) follows Zad ⟨ZrW,⟨ZhW,trivial⟩⟩ (by kernel_rfl)
def aw173:Fact:=⟨103,[(.agg (.gen [(.int .i64 3),(.list (.gen [(.list (.ints .i64 [0,1])),(.list (.ints .i64 [1,2]))]))])),(.list (.ints .i64 [1,0,0]))],(.int .i64 0),none⟩
theorem Zsy:Zai Try.prog aw173.f aw173.args aw173.r aw173.fr:=Zab (n:=100000) (l:=[aw165,aw12,aw172,aw21]) follows Zad ⟨Zug,⟨ZlR,⟨ZrD,⟨Zrq,trivial⟩⟩⟩⟩ (by kernel_rfl)
def aw174:Fact:=⟨91,[(.int .i64 5),(.int .i64 0),(.int .i64 30)],(.bool true),none⟩
theorem Zsj:Zai Try.prog aw174.f aw174.args aw174.r aw174.fr:=Zab (n:=100000) (l:=[]) follows Zad trivial (by kernel_rfl)
def aw175:Fact:=⟨104,[(.list (.ints .i64 [1,0,0]))],(.row 0 0),(some ⟨3,1,(.ints .i64 [1,0,0])⟩)⟩
theorem Zns:Zai Try.prog aw175.f aw175.args aw175.r aw175.fr:=Zg5 _ (by decide)
def aw176:Fact:=⟨105,[(.agg (.gen [(.int .i64 3),(.list (.gen [(.list (.ints .i64 [0,1])),(.list (.ints .i64 [1,2]))]))])),(.list (.ints .i64 [1,0,0]))],(.row 0 0),(some ⟨3,1,(.ints .i64 [0])⟩)⟩
theorem ZnJ:Zai Try.prog aw176.f aw176.args aw176.r aw176.fr:=Zab (n:=100000) (l:=[]) follows Zad trivial (by kernel_rfl)
def aw177:Fact:=⟨133,[(.list (.ints .i64 [0])),(.int .i64 0)],(.int .i64 0),none⟩
theorem ZsB:Zai Try.prog aw177.f aw177.args aw177.r aw177.fr:=Zab (n:=100000) (l:=[]) follows Zad trivial (by kernel_rfl)
def aw178:Fact:=⟨121,[(.list (.ints .i64 [0])),(.int .i64 0)],(.bool true),none⟩
theorem ZsL:Zai Try.prog aw178.f aw178.args aw178.r aw178.fr:=Zab (n:=100000) (l:=[aw177]) follows Zad ⟨ZsB,trivial⟩ (by kernel_rfl)
def aw179:Fact:=⟨133,[(.list (.ints .i64 [0])),(.int .i64 1)],(.int .i64 (-1)),none⟩
theorem Ztd:Zai Try.prog aw179.f aw179.args aw179.r aw179.fr:=Zab (n:=100000) (l:=[]) follows Zad trivial (by kernel_rfl)
def aw180:Fact:=⟨121,[(.list (.ints .i64 [0])),(.int .i64 1)],(.bool false),none⟩
theorem Zt6:Zai Try.prog aw180.f aw180.args aw180.r aw180.fr:=Zab (n:=100000) (l:=[aw179]) follows Zad ⟨Ztd,trivial⟩ (by kernel_rfl)
def aw181:Fact:=⟨106,[(.agg (.gen [(.int .i64 3),(.list (.gen [(.list (.ints .i64 [0,1])),(.list (.ints .i64 [1,2]))]))])),(.list (.ints .i64 [1,0,0]))],(.row 0 0),(some ⟨3,1,(.ints .i64 [0,0,0])⟩)⟩
theorem Ztl:Zai Try.prog aw181.f aw181.args aw181.r aw181.fr:=Zab (n:=100000) (l:=[aw176,aw178,aw180,aw175]) follows Zad ⟨ZnJ,⟨ZsL,⟨Zt6,⟨Zns,trivial⟩⟩⟩⟩ (by kernel_rfl)
def aw182:Fact:=⟨105,[(.agg (.gen [(.int .i64 3),(.list (.gen [(.list (.ints .i64 [0,1])),(.list (.ints .i64 [1,2]))]))])),(.list (.ints .i64 [0,0,0]))], .nils,none⟩
theorem ZrV:Zai Try.prog aw182.f aw182.args aw182.r aw182.fr:=Zab (n:=100000) (l:=[]) follows Zad trivial (by kernel_rfl)
def aw183:Fact:=⟨61,[(.agg (.gen [(.int .i64 3),(.list (.gen [(.list (.ints .i64 [0,1])),(.list (.ints .i64 [1,2]))]))])),(.list (.ints .i64 [1,0,0])),(.int .i64 5)],(.tup [(.row 0 0),(.int .i64 1),(.int .i64 0)]),(some ⟨3,1,(.ints .i64 [0,0,0])⟩)⟩
theorem ZtP:Zai Try.prog aw183.f aw183.args aw183.r aw183.fr:=Zab (n:=100000) (l:=[aw173,aw174,aw9,aw69,aw175,aw176,aw181,aw182]) follows Zad ⟨Zsy,⟨Zsj,⟨ZhW,⟨Zj2,⟨Zns,⟨ZnJ,⟨Ztl,⟨ZrV,trivial⟩⟩⟩⟩⟩⟩⟩⟩ (by kernel_rfl)
def aw184:Fact:=⟨83,[(.list (.ints .i64 [100000])),(.int .i64 4)],(.row 0 0),(some ⟨3,1,(.ints .i64 [100000,100000,100000,100000])⟩)⟩
theorem Zt4:Zai Try.prog aw184.f aw184.args aw184.r aw184.fr:=Zab (n:=100000) (l:=[aw26]) follows Zad ⟨Zqk,trivial⟩ (by kernel_rfl)
def aw185:Fact:=⟨81,[(.int .i64 0),(.int .i64 1),(.eptr (.agg (.gen [(.int .i64 2),(.int .i64 7),(.int .i64 5)])) 0)],(.tup [(.int .i64 2),(.int .i64 2)]),none⟩
theorem Zt7:Zai Try.prog aw185.f aw185.args aw185.r aw185.fr:=Zab (n:=100000) (l:=[aw47]) follows Zad ⟨Zrf,trivial⟩ (by kernel_rfl)
def aw186:Fact:=⟨81,[(.int .i64 1),(.int .i64 0),(.eptr (.agg (.gen [(.int .i64 2),(.int .i64 7),(.int .i64 5)])) 0)],(.tup [(.int .i64 0),(.int .i64 2)]),none⟩
theorem ZrQ:Zai Try.prog aw186.f aw186.args aw186.r aw186.fr:=Zab (n:=100000) (l:=[aw35]) follows Zad ⟨Zqs,trivial⟩ (by kernel_rfl)
def aw187:Fact:=⟨81,[(.int .i64 1),(.int .i64 1),(.eptr (.agg (.gen [(.int .i64 2),(.int .i64 7),(.int .i64 5)])) 0)],(.tup [(.int .i64 2),(.int .i64 0)]),none⟩
theorem Zsl:Zai Try.prog aw187.f aw187.args aw187.r aw187.fr:=Zab (n:=100000) (l:=[aw50]) follows Zad ⟨Zp4,trivial⟩ (by kernel_rfl)
def aw188:Fact:=⟨81,[(.int .i64 2),(.int .i64 0),(.eptr (.agg (.gen [(.int .i64 2),(.int .i64 7),(.int .i64 5)])) 0)],(.tup [(.int .i64 1),(.int .i64 1)]),none⟩
theorem Zsu:Zai Try.prog aw188.f aw188.args aw188.r aw188.fr:=Zab (n:=100000) (l:=[aw39]) follows Zad ⟨Zrr,trivial⟩ (by kernel_rfl)
def aw189:Fact:=⟨81,[(.int .i64 2),(.int .i64 1),(.eptr (.agg (.gen [(.int .i64 2),(.int .i64 7),(.int .i64 5)])) 0)],(.tup [(.int .i64 3),(.int .i64 1)]),none⟩
theorem ZrI:Zai Try.prog aw189.f aw189.args aw189.r aw189.fr:=Zab (n:=100000) (l:=[aw53]) follows Zad ⟨ZpH,trivial⟩ (by kernel_rfl)
def aw190:Fact:=⟨81,[(.int .i64 3),(.int .i64 0),(.eptr (.agg (.gen [(.int .i64 2),(.int .i64 7),(.int .i64 5)])) 0)],(.tup [(.int .i64 1),(.int .i64 1)]),none⟩
theorem Zuh:Zai Try.prog aw190.f aw190.args aw190.r aw190.fr:=Zab (n:=100000) (l:=[aw42]) follows Zad ⟨ZqG,trivial⟩ (by kernel_rfl)
def aw191:Fact:=⟨81,[(.int .i64 3),(.int .i64 1),(.eptr (.agg (.gen [(.int .i64 2),(.int .i64 7),(.int .i64 5)])) 0)],(.tup [(.int .i64 3),(.int .i64 1)]),none⟩
theorem ZtM:Zai Try.prog aw191.f aw191.args aw191.r aw191.fr:=Zab (n:=100000) (l:=[aw56]) follows Zad ⟨Zp1,trivial⟩ (by kernel_rfl)
def aw192:Fact:=⟨32,[(.agg (.gen [(.int .i64 2),(.int .i64 7),(.int .i64 5)]))],(.tup [(.int .i64 5),(.int .i64 0)]),none⟩
theorem Zsa:Zai Try.prog aw192.f aw192.args aw192.r aw192.fr:=Zab (n:=100000) (l:=[aw11,aw184,aw185,aw186,aw187,aw188,aw189,aw190,aw191]) follows Zad ⟨Zrs,⟨Zt4,⟨Zt7,⟨ZrQ,⟨Zsl,⟨Zsu,⟨ZrI,⟨Zuh,⟨ZtM,trivial⟩⟩⟩⟩⟩⟩⟩⟩⟩ (by kernel_rfl)
def aw193:Fact:=⟨17,[(.list (.ints .i64 [1,0])),(.list (.ints .i64 [1,0]))],(.bool true),none⟩
theorem Ztn:Zai Try.prog aw193.f aw193.args aw193.r aw193.fr:=Zab (n:=100000) (l:=[]) follows Zad trivial (by kernel_rfl)
def aw194:Fact:=⟨17,[(.list (.ints .i64 [0,0,0])),(.list (.ints .i64 [0,0,0]))],(.bool true),none⟩
theorem Zr9:Zai Try.prog aw194.f aw194.args aw194.r aw194.fr:=Zab (n:=100000) (l:=[]) follows Zad trivial (by kernel_rfl)
def aw195:Fact:=⟨12,[],(.bool true),none⟩
theorem Zsi:Zai Try.prog aw195.f aw195.args aw195.r aw195.fr:=Zab (n:=100000) (l:=[aw0,aw1,aw58,aw59,aw61,aw70,aw69,aw156,aw157,aw183,aw192,aw193,aw194]) follows Zad ⟨ZBI,⟨Zy8,⟨Zxs,⟨ZvJ,⟨Zye,⟨ZxY,⟨Zj2,⟨ZtU,⟨ZrY,⟨ZtP,⟨Zsa,⟨Ztn,⟨Zr9,trivial⟩⟩⟩⟩⟩⟩⟩⟩⟩⟩⟩⟩⟩ (by kernel_rfl)
end Go.Proofs.Ytklbmkllepkjcaa
/- Contracts as a list. No condition. -/
namespace Go.Proofs.Ytklbmkllepkjcaa
def blW(m p q:Int)(so:List Int):List Int:=if cdW m p q so=0 then blI m p q so else []
def bvW(m p q:Int)(so:List Int):Int:=if cdW m p q so=0 then bvI m p q so else 0
theorem ZqL{m p q:Int}{so:List Int}(h:cdW m p q so=0):OkC m p q so:=by
 unfold cdW at h
 split at h
 ·contradiction
 ·rename_i h1
  have h1:ZaE m p q=0:=Classical.not_not.1 h1
  have hm:=(Zaj h1).1
  exact⟨h1,by rw[←ZmT (by omega)];exact h⟩
theorem Zhn{m p q:Int}{so:List Int} :cdW m p q so=cdE m p q so:=by
 unfold cdW cdE
 split
 ·rfl
 ·rename_i h1
  have h1:ZaE m p q=0:=Classical.not_not.1 h1
  have hm:=(Zaj h1).1
  exact ZmT (by omega)
theorem Zxd(m p q:Int)(so:List Int)(hl:so.length≤1000000):Zai Try.prog 13 [.agg (.gen [.int .i64 m, .int .i64 p, .int .i64 q]), .list (.ints .i64 so)] (.tup [.list (.ints .i64 (blW m p q so)), .int .i64 (bvW m p q so), .int .i64 (cdW m p q so)]) ZxN:=by
 refine ZA3 (ZwL m p q so) fun C hC=>ZHJ hC ZAY ZEA ?_
 by_cases h1:ZaE m p q=0
 ·by_cases h2:sfW m so=0
  ·have e1:cdW m p q so=0:=by simp[cdW,h1,h2]
   have ho:=okI_iff.2 (ZqL e1)
   simp[Zr6,h1,h2,hl,ho,blW,bvW,e1]
   exact⟨_, .same _, .tup ⟨.row _ rfl rfl rfl, .same _ rfl rfl, .same _ rfl rfl,trivial⟩,rfl⟩
  ·have e1:cdW m p q so=sfW m so:=by simp[cdW,h1]
   simp[Zr6,h1,h2,hl,blW,bvW,e1]
   exact⟨_, .same _, .tup ⟨.nil _ rfl, .same _ rfl rfl, .same _ rfl rfl,trivial⟩,rfl⟩
 ·have e1:cdW m p q so=ZaE m p q:=by simp[cdW,h1]
  simp[Zr6,h1,blW,bvW,e1]
  exact⟨_, .same _, .tup ⟨.nil _ rfl, .same _ rfl rfl, .same _ rfl rfl,trivial⟩,rfl⟩
def k13:Ctr:=⟨13,0,fun _ a=>match a with |[.agg (.gen [.int .i64 m, .int .i64 p, .int .i64 q]), .list (.ints .i64 so)]=>some (decide (so.length≤1000000), .tup [.list (.ints .i64 (blW m p q so)), .int .i64 (bvW m p q so), .int .i64 (cdW m p q so)],ZxN) |_=>none⟩
theorem Zyy:k13.OK Try.prog:=fun pa args r fr h=>by
 simp only[k13]at h
 split at h
 ·simp only[Option.some.injEq,Prod.mk.injEq,decide_eq_true_eq]at h
  obtain⟨h0,rfl,rfl⟩:=h
  exact Zxd _ _ _ _ h0
 ·cases h
def k12:Ctr:=⟨12,0,fun _ a=>match a with |[]=>some (true, .bool true,none) |_=>none⟩
theorem ZCv:k12.OK Try.prog:=fun pa args r fr h=>by
 simp only[k12]at h
 split at h
 ·cases h
  exact Zsi
 ·cases h
def J8:List Ctr:=[k13,k12]++J7
theorem ZcV:ZaP Try.prog J8:=⟨Zyy,⟨ZCv,ZAY⟩⟩
end Go.Proofs.Ytklbmkllepkjcaa
/- Paths of functions, printed by the explorer (Gx). No condition. -/
namespace Go.Proofs.Ytklbmkllepkjcaa
set_option maxRecDepth 100000
set_option linter.unusedVariables false
def ZBZ(m g0 g1:Int)(xs:List Int)(ps:List AV):AFrame:={ fn:=35,N:=101,env:=[(0,AV.agg (Row.gen [.int .i64 m, .int .i64 g0, .int .i64 g1])),(1,AV.list (.ints .i64 xs)),(2,AV.list (Row.big (.ints .i64) ps))],todo:=[.code a35.code],defs:=[],rnd:=none,ret:=false,res:=[ARes.cell 6 false 1,ARes.cell 7 false 1] }
def ZF9(m g0 g1:Int)(xs:List Int)(ps:List AV):List AFrame:=[(ZBZ m g0 g1 xs ps)]
theorem Zvd(m g0 g1:Int)(xs:List Int)(ps:List AV):Zas tab 35 [AV.agg (Row.gen [.int .i64 m, .int .i64 g0, .int .i64 g1]),AV.list (.ints .i64 xs),AV.list (Row.big (.ints .i64) ps)]=some (ZBZ m g0 g1 xs ps):=rfl
def ZhJ(m g0 g1:Int)(xs:List Int)(ps:List AV)(n0 n1:Int):List AFrame:=[{ fn:=35,N:=101,env:=[(5,AV.ptr 35006 0 0 0),(6,AV.ptr 35007 0 0 0),(7,AV.ptr 35008 0 0 0),(10,AV.ptr 35011 0 0 0),(36,AV.list (Row.big (.ints .i64) ps)),(37,AV.int .i64 n0),(38,AV.int .i64 n1)],todo:=.code (ACode.gh [] ZAU)::ZD2,defs:=[(2000035,0)],rnd:=none,ret:=false,res:=[ARes.cell 6 false 1,ARes.cell 7 false 1] }]
def Zfr(m g0 g1:Int)(xs:List Int)(ps:List AV)(n0 n1:Int):Zac:=[(35006,{ base:=0,blks:=[Blk.row 56 1 (Row.gen [.list (Row.big (.ints .i64) ps)])] }),(35007,{ base:=0,blks:=[Blk.row 3 1 (Row.gen [.int .i64 0])] }),(35008,{ base:=0,blks:=[Blk.row 27 1 (Row.gen [.int .i64 0])] }),(35011,{ base:=0,blks:=[Blk.row 97 4 (Row.gen [AV.agg (Row.gen [AV.int .i64 m,AV.int .i64 g0,AV.int .i64 g1,AV.list (.ints .i64 xs)])])] }),(2000035,{ base:=0,blks:=[],sym:=Sym.dfrs 0 })]
abbrev Zis(m g0 g1:Int)(xs:List Int)(ps:List AV)(n0 n1:Int):List AFrame×Zac:=(ZhJ m g0 g1 xs ps n0 n1,Zfr m g0 g1 xs ps n0 n1)
def ZeE(m g0 g1:Int)(xs:List Int)(ps:List AV)(n2 n3:Int)(j4:Nat):List AFrame:=[{ fn:=35,N:=101,env:=[(5,AV.ptr 35006 0 0 0),(6,AV.ptr 35007 0 0 0),(7,AV.ptr 35008 0 0 0),(10,AV.ptr 35011 0 0 0),(57,AV.int .i64 n2),(58,AV.int .i64 n3)],todo:=.code (ACode.gh [] ZA5)::Zve,defs:=[(2000035,0)],rnd:=none,ret:=false,res:=[ARes.cell 6 false 1,ARes.cell 7 false 1] }]
def ZdS(m g0 g1:Int)(xs:List Int)(ps:List AV)(n2 n3:Int)(j4:Nat):Zac:=[(35006,{ base:=0,blks:=[Blk.row 56 1 (Row.gen [.list (Row.big (.ints .i64) ps)])] }),(35007,{ base:=0,blks:=[Blk.row 3 1 (Row.gen [.int .i64 0])] }),(35008,{ base:=0,blks:=[Blk.row 27 1 (Row.gen [.int .i64 0])] }),(35011,{ base:=0,blks:=[Blk.row 97 4 (Row.gen [AV.agg (Row.gen [AV.int .i64 m,AV.int .i64 g0,AV.int .i64 g1,AV.list (.ints .i64 xs)])])] }),(2000035,{ base:=0,blks:=[],sym:=Sym.dfrs j4 })]
abbrev Zjp(m g0 g1:Int)(xs:List Int)(ps:List AV)(n2 n3:Int)(j4:Nat):List AFrame×Zac:=(ZeE m g0 g1 xs ps n2 n3 j4,ZdS m g0 g1 xs ps n2 n3 j4)
def Zfi(m g0 g1:Int)(xs:List Int)(ps:List AV)(n2 n3 n5:Int)(b6 b7:Bool)(j8:Nat)(n9:Int):List AFrame:=[{ fn:=115,N:=64,env:=[(0,AV.yld 35901 0),(1,AV.ptr 87003 0 0 0),(2,AV.ptr 87004 0 0 0),(10,AV.int .i64 n5),(11,AV.int .i64 n9)],todo:=.code (ACode.gh [] Zlk)::Zm6,defs:=[],rnd:=none,ret:=false,res:=[] },{ fn:=35,N:=101,env:=[(5,AV.ptr 35006 0 0 0),(6,AV.ptr 35007 0 0 0),(7,AV.ptr 35008 0 0 0),(10,AV.ptr 35011 0 0 0),(14,AV.ptr 35015 0 0 0),(57,AV.int .i64 n2),(58,AV.int .i64 n3),(59,AV.bool b6),(60,AV.int .i64 n3),(61,AV.agg (Row.gen [.int .i64 m, .int .i64 g0, .int .i64 g1, .list (.ints .i64 xs)])),(62,AV.int .i64 n3),(63,AV.fn 115 [AV.ptr 87003 0 0 0,AV.ptr 87004 0 0 0])],todo:=AItem.inRF 35901 0::AItem.inBlock 4::AItem.inBlock 3::.code (ACode.reg none [oN 87 (OpK.bin Go.BinOp.add (Opd.t 58) (cI 1)),mV 58 87])::Zve,defs:=[(2000035,0)],rnd:=none,ret:=false,res:=[ARes.cell 6 false 1,ARes.cell 7 false 1] }]
def Zd3(m g0 g1:Int)(xs:List Int)(ps:List AV)(n2 n3 n5:Int)(b6 b7:Bool)(j8:Nat)(n9:Int):Zac:=[(35006,{ base:=0,blks:=[Blk.row 56 1 (Row.gen [.list (Row.big (.ints .i64) ps)])] }),(35007,{ base:=0,blks:=[Blk.row 3 1 (Row.gen [.int .i64 0])] }),(35008,{ base:=0,blks:=[Blk.row 27 1 (Row.gen [.int .i64 0])] }),(35011,{ base:=0,blks:=[Blk.row 97 4 (Row.gen [AV.agg (Row.gen [AV.int .i64 m,AV.int .i64 g0,AV.int .i64 g1,AV.list (.ints .i64 xs)])])] }),(35015,{ base:=0,blks:=[Blk.row 3 1 (Row.gen [.int .i64 n3])] }),(35901,{ base:=0,blks:=[Blk.lp { st:=RSt.ready,fn:=35,N:=101,env:=[(5,AV.ptr 35006 0 0 0),(6,AV.ptr 35007 0 0 0),(7,AV.ptr 35008 0 0 0),(10,AV.ptr 35011 0 0 0),(14,AV.ptr 35015 0 0 0),(57,AV.int .i64 n2),(58,AV.int .i64 n3),(59,AV.bool b7),(60,AV.int .i64 n3),(61,AV.agg (Row.gen [.int .i64 m, .int .i64 g0, .int .i64 g1, .list (.ints .i64 xs)])),(62,AV.int .i64 n3),(63,AV.fn 115 [AV.ptr 87003 0 0 0,AV.ptr 87004 0 0 0])],params:=[64],asg:=ACode.reg none [oN 15 (OpK.alloc 35016 120 (AV.agg (Row.gen [.int .i64 0, .int .i64 0, .int .i64 0, .flt Go.FloatKind.f32 0]))),{ d:=none,g:=none,k:=OpK.store 4 (Opd.t 15) (Opd.t 64) }],body:=ACode.block 5 (ACode.seq (ACode.reg (some []) [oN 65 (OpK.load false 1 (Opd.t 5)),oN 66 (OpK.load false 1 (Opd.t 14)),oN 67 (OpK.iaddr 1 (Opd.t 65) (Opd.t 66)),oN 68 (OpK.load false 1 (Opd.t 67)),oN 69 (OpK.faddr 0 (Opd.t 15)),oN 70 (OpK.load false 1 (Opd.t 69)),oN 71 (OpK.iaddr 1 (Opd.t 68) (Opd.t 70)),oN 72 (OpK.load false 1 (Opd.t 71)),oN 73 (OpK.faddr 3 (Opd.t 15)),oN 74 (OpK.load false 1 (Opd.t 73)),oN 75 (OpK.f2i .i64 (Opd.t 74)),oN 76 (OpK.bin Go.BinOp.add (Opd.t 72) (Opd.t 75)),oN 77 (OpK.load false 1 (Opd.t 5)),oN 78 (OpK.load false 1 (Opd.t 14)),oN 79 (OpK.bin Go.BinOp.add (Opd.t 78) (cI 1)),oN 80 (OpK.iaddr 1 (Opd.t 77) (Opd.t 79)),oN 81 (OpK.load false 1 (Opd.t 80)),oN 82 (OpK.faddr 2 (Opd.t 15)),oN 83 (OpK.load false 1 (Opd.t 82)),oN 84 (OpK.iaddr 1 (Opd.t 81) (Opd.t 83)),oN 85 (OpK.load false 1 (Opd.t 84)),oN 86 (OpK.bin Go.BinOp.gtr (Opd.t 76) (Opd.t 85))]) (ACode.gh [Ghost.keep [5,6,7,10,14,57,58,86]] (ACode.cond (Opd.t 86) (ACode.seq (ACode.reg none [{ d:=none,g:=none,k:=OpK.store 1 (Opd.t 6) (cI 0) },{ d:=none,g:=none,k:=OpK.store 1 (Opd.t 7) (cI 19) }]) ACode.ret) ACode.skip))) }] }),(87003,{ base:=0,blks:=[Blk.row 97 4 (Row.gen [AV.agg (Row.gen [AV.int .i64 m,AV.int .i64 g0,AV.int .i64 g1,AV.list (.ints .i64 xs)])])] }),(87004,{ base:=0,blks:=[Blk.row 3 1 (Row.gen [.int .i64 n3])] }),(2000035,{ base:=0,blks:=[],sym:=Sym.dfrs j8 })]
abbrev Zef(m g0 g1:Int)(xs:List Int)(ps:List AV)(n2 n3 n5:Int)(b6 b7:Bool)(j8:Nat)(n9:Int):List AFrame×Zac:=(Zfi m g0 g1 xs ps n2 n3 n5 b6 b7 j8 n9,Zd3 m g0 g1 xs ps n2 n3 n5 b6 b7 j8 n9)
def ZdU(m g0 g1:Int)(xs:List Int)(ps:List AV)(n2 n3 n5:Int)(b6 b7:Bool)(j8:Nat)(n9 n10:Int):List AFrame:=[{ fn:=115,N:=64,env:=[(0,AV.yld 35901 0),(1,AV.ptr 87003 0 0 0),(2,AV.ptr 87004 0 0 0),(4,AV.int .i64 n9),(10,AV.int .i64 n5),(11,AV.int .i64 n9),(14,AV.int .i64 n10)],todo:=.code (ACode.gh [] Zlb)::Znk,defs:=[],rnd:=none,ret:=false,res:=[] },{ fn:=35,N:=101,env:=[(5,AV.ptr 35006 0 0 0),(6,AV.ptr 35007 0 0 0),(7,AV.ptr 35008 0 0 0),(10,AV.ptr 35011 0 0 0),(14,AV.ptr 35015 0 0 0),(57,AV.int .i64 n2),(58,AV.int .i64 n3),(59,AV.bool b6),(60,AV.int .i64 n3),(61,AV.agg (Row.gen [.int .i64 m, .int .i64 g0, .int .i64 g1, .list (.ints .i64 xs)])),(62,AV.int .i64 n3),(63,AV.fn 115 [AV.ptr 87003 0 0 0,AV.ptr 87004 0 0 0])],todo:=AItem.inRF 35901 0::AItem.inBlock 4::AItem.inBlock 3::.code (ACode.reg none [oN 87 (OpK.bin Go.BinOp.add (Opd.t 58) (cI 1)),mV 58 87])::Zve,defs:=[(2000035,0)],rnd:=none,ret:=false,res:=[ARes.cell 6 false 1,ARes.cell 7 false 1] }]
def ZcM(m g0 g1:Int)(xs:List Int)(ps:List AV)(n2 n3 n5:Int)(b6 b7:Bool)(j8:Nat)(n9 n10:Int):Zac:=[(35006,{ base:=0,blks:=[Blk.row 56 1 (Row.gen [.list (Row.big (.ints .i64) ps)])] }),(35007,{ base:=0,blks:=[Blk.row 3 1 (Row.gen [.int .i64 0])] }),(35008,{ base:=0,blks:=[Blk.row 27 1 (Row.gen [.int .i64 0])] }),(35011,{ base:=0,blks:=[Blk.row 97 4 (Row.gen [AV.agg (Row.gen [AV.int .i64 m,AV.int .i64 g0,AV.int .i64 g1,AV.list (.ints .i64 xs)])])] }),(35015,{ base:=0,blks:=[Blk.row 3 1 (Row.gen [.int .i64 n3])] }),(35901,{ base:=0,blks:=[Blk.lp { st:=RSt.ready,fn:=35,N:=101,env:=[(5,AV.ptr 35006 0 0 0),(6,AV.ptr 35007 0 0 0),(7,AV.ptr 35008 0 0 0),(10,AV.ptr 35011 0 0 0),(14,AV.ptr 35015 0 0 0),(57,AV.int .i64 n2),(58,AV.int .i64 n3),(59,AV.bool b7),(60,AV.int .i64 n3),(61,AV.agg (Row.gen [.int .i64 m, .int .i64 g0, .int .i64 g1, .list (.ints .i64 xs)])),(62,AV.int .i64 n3),(63,AV.fn 115 [AV.ptr 87003 0 0 0,AV.ptr 87004 0 0 0])],params:=[64],asg:=ACode.reg none [oN 15 (OpK.alloc 35016 120 (AV.agg (Row.gen [.int .i64 0, .int .i64 0, .int .i64 0, .flt Go.FloatKind.f32 0]))),{ d:=none,g:=none,k:=OpK.store 4 (Opd.t 15) (Opd.t 64) }],body:=ACode.block 5 (ACode.seq (ACode.reg (some []) [oN 65 (OpK.load false 1 (Opd.t 5)),oN 66 (OpK.load false 1 (Opd.t 14)),oN 67 (OpK.iaddr 1 (Opd.t 65) (Opd.t 66)),oN 68 (OpK.load false 1 (Opd.t 67)),oN 69 (OpK.faddr 0 (Opd.t 15)),oN 70 (OpK.load false 1 (Opd.t 69)),oN 71 (OpK.iaddr 1 (Opd.t 68) (Opd.t 70)),oN 72 (OpK.load false 1 (Opd.t 71)),oN 73 (OpK.faddr 3 (Opd.t 15)),oN 74 (OpK.load false 1 (Opd.t 73)),oN 75 (OpK.f2i .i64 (Opd.t 74)),oN 76 (OpK.bin Go.BinOp.add (Opd.t 72) (Opd.t 75)),oN 77 (OpK.load false 1 (Opd.t 5)),oN 78 (OpK.load false 1 (Opd.t 14)),oN 79 (OpK.bin Go.BinOp.add (Opd.t 78) (cI 1)),oN 80 (OpK.iaddr 1 (Opd.t 77) (Opd.t 79)),oN 81 (OpK.load false 1 (Opd.t 80)),oN 82 (OpK.faddr 2 (Opd.t 15)),oN 83 (OpK.load false 1 (Opd.t 82)),oN 84 (OpK.iaddr 1 (Opd.t 81) (Opd.t 83)),oN 85 (OpK.load false 1 (Opd.t 84)),oN 86 (OpK.bin Go.BinOp.gtr (Opd.t 76) (Opd.t 85))]) (ACode.gh [Ghost.keep [5,6,7,10,14,57,58,86]] (ACode.cond (Opd.t 86) (ACode.seq (ACode.reg none [{ d:=none,g:=none,k:=OpK.store 1 (Opd.t 6) (cI 0) },{ d:=none,g:=none,k:=OpK.store 1 (Opd.t 7) (cI 19) }]) ACode.ret) ACode.skip))) }] }),(87003,{ base:=0,blks:=[Blk.row 97 4 (Row.gen [AV.agg (Row.gen [AV.int .i64 m,AV.int .i64 g0,AV.int .i64 g1,AV.list (.ints .i64 xs)])])] }),(87004,{ base:=0,blks:=[Blk.row 3 1 (Row.gen [.int .i64 n3])] }),(2000035,{ base:=0,blks:=[],sym:=Sym.dfrs j8 })]
abbrev Zea(m g0 g1:Int)(xs:List Int)(ps:List AV)(n2 n3 n5:Int)(b6 b7:Bool)(j8:Nat)(n9 n10:Int):List AFrame×Zac:=(ZdU m g0 g1 xs ps n2 n3 n5 b6 b7 j8 n9 n10,ZcM m g0 g1 xs ps n2 n3 n5 b6 b7 j8 n9 n10)
def Zqw(A:Ar)(K:KT)(F:FT)(m g0 g1:Int)(xs:List Int)(ps:List AV):Prop:=bB (A.not (A.eq (ZaE m g0 g1) 0)) (F (AV.tup [AV.int .i64 0,AV.int .i64 (ZaE m g0 g1)]) (none)) (rB [decide (List.length xs≤1000000)] (bB (A.not (A.eq (sfW m xs) 0)) (F (AV.tup [AV.int .i64 0,AV.int .i64 (sfW m xs)]) (none)) (rB [A.inR .i64 (A.add (Zag xs) 1),decide (List.length xs≤1000000)] (bB (A.not (A.eq (A.int (A.lenA ps)) (A.add (Zag xs) 1))) (F (AV.tup [AV.int .i64 0,AV.int .i64 10]) (none)) (K (Zis (m) (g0) (g1) (xs) (ps) (A.int (A.lenA ps)) (0)))))))
theorem ZDN{A:Ar}{K:KT}{F:FT}{M:MT}{m g0 g1:Int}{xs:List Int}{ps:List AV} :Zap A tab N6 35 K F M (.run 20 (.tf (.run 8 (.fn)) (.run 14 (.tf (.run 8 (.fn)) (.run 12 (.tf (.run 7 (.fn)) (.run 11 (.hd)))))))) (ZF9 m g0 g1 xs ps) []=Zqw A K F m g0 g1 xs ps:=by kernel_rfl
def ZdI(A:Ar)(K:KT)(F:FT)(m g0 g1:Int)(xs:List Int)(ps:List AV)(n0 n1:Int):Prop:=bB (A.lt n1 n0) (rB [decide (List.length [Zay (A.eq (A.int (A.len (AV.toIs (A.nthA ps (A.nat n1))))) (stN m)) 10,Zbs (AV.toIs (A.nthA ps (A.nat n1))) (-1000000) 1000000]≤1000000),List.all [AV.int .i64 (Zay (A.eq (A.int (A.len (AV.toIs (A.nthA ps (A.nat n1))))) (stN m)) 10),AV.int .i64 (Zbs (AV.toIs (A.nthA ps (A.nat n1))) (-1000000) 1000000)] fun x=>AV.bx x&&Nat.beq (Zao A x) 1,decide (List.length (AV.toIs (A.nthA ps (A.nat n1)))≤1000000),decide (Za7 m=true),Zae (Zae (A.le 0 n1) (Nat.blt (A.nat n1) (A.lenA ps))) true] (bB (A.not (A.eq (Za5 [Zay (A.eq (A.int (A.len (AV.toIs (A.nthA ps (A.nat n1))))) (stN m)) 10,Zbs (AV.toIs (A.nthA ps (A.nat n1))) (-1000000) 1000000]) 0)) (F (AV.tup [AV.int .i64 0,AV.int .i64 (Za5 [Zay (A.eq (A.int (A.len (AV.toIs (A.nthA ps (A.nat n1))))) (stN m)) 10,Zbs (AV.toIs (A.nthA ps (A.nat n1))) (-1000000) 1000000])]) (none)) (rB [A.inR .i64 (A.add n1 1)] (K (Zis (m) (g0) (g1) (xs) (ps) (n0) (A.add n1 1)))))) (rB [decide (List.length xs≤1000000)] (K (Zjp (m) (g0) (g1) (xs) (ps) (Zag xs) (0) (0))))
theorem Ziu{A:Ar}{K:KT}{F:FT}{M:MT}{m g0 g1:Int}{xs:List Int}{ps:List AV}{n0 n1:Int} :Zap A tab N6 35 K F M (.run 6 (.tf (.run 29 (.tf (.run 8 (.fn)) (.run 8 (.hd)))) (.run 11 (.hd)))) (ZhJ m g0 g1 xs ps n0 n1) (Zfr m g0 g1 xs ps n0 n1)=ZdI A K F m g0 g1 xs ps n0 n1:=by kernel_rfl
def Zfy(A:Ar)(K:KT)(F:FT)(m g0 g1:Int)(xs:List Int)(ps:List AV)(n2 n3:Int)(j4:Nat):Prop:=bB (A.lt n3 n2) (rB [decide (Za7 m=true)] (K (Zef (m) (g0) (g1) (xs) (ps) (n2) (n3) (stN m) (A.lt n3 n2) (A.lt n3 n2) (j4+1) (0)))) (rB [A.inR .i64 (A.sub (A.nth (AV.toIs (A.nthA ps (A.nat (Zag xs)))) (A.nat 0)) (A.nth (AV.toIs (A.nthA ps (A.nat 0))) (A.nat 0))),Zae (Zae (A.le 0 0) (Nat.blt (A.nat 0) (A.len (AV.toIs (A.nthA ps (A.nat 0)))))) true,Zae (Zae (A.le 0 0) (Nat.blt (A.nat 0) (A.lenA ps))) true,Zae (Zae (A.le 0 0) (Nat.blt (A.nat 0) (A.len (AV.toIs (A.nthA ps (A.nat (Zag xs))))))) true,Zae (Zae (A.le 0 (Zag xs)) (Nat.blt (A.nat (Zag xs)) (A.lenA ps))) true,decide (List.length xs≤1000000)] (F (AV.tup [AV.int .i64 (A.sub (A.nth (AV.toIs (A.nthA ps (A.nat (Zag xs)))) (A.nat 0)) (A.nth (AV.toIs (A.nthA ps (A.nat 0))) (A.nat 0))),AV.int .i64 0]) (none)))
theorem Zjg{A:Ar}{K:KT}{F:FT}{M:MT}{m g0 g1:Int}{xs:List Int}{ps:List AV}{n2 n3:Int}{j4:Nat} :Zap A tab N6 35 K F M (.run 6 (.tf (.run 39 (.hd)) (.run 6 (.fn)))) (ZeE m g0 g1 xs ps n2 n3 j4) (ZdS m g0 g1 xs ps n2 n3 j4)=Zfy A K F m g0 g1 xs ps n2 n3 j4:=by kernel_rfl
def Zer(A:Ar)(K:KT)(F:FT)(m g0 g1:Int)(xs:List Int)(ps:List AV)(n2 n3 n5:Int)(b6 b7:Bool)(j8:Nat)(n9:Int):Prop:=bB (A.lt n9 n5) (K (Zea (m) (g0) (g1) (xs) (ps) (n2) (n3) (n5) (b6) (b7) (j8) (n9) (0))) (rB [A.inR .i64 (A.add n3 1)] (K (Zjp (m) (g0) (g1) (xs) (ps) (n2) (A.add n3 1) (j8))))
theorem ZhD{A:Ar}{K:KT}{F:FT}{M:MT}{m g0 g1:Int}{xs:List Int}{ps:List AV}{n2 n3 n5:Int}{b6 b7:Bool}{j8:Nat}{n9:Int} :Zap A tab N6 35 K F M (.run 6 (.tf (.run 15 (.hd)) (.run 12 (.hd)))) (Zfi m g0 g1 xs ps n2 n3 n5 b6 b7 j8 n9) (Zd3 m g0 g1 xs ps n2 n3 n5 b6 b7 j8 n9)=Zer A K F m g0 g1 xs ps n2 n3 n5 b6 b7 j8 n9:=by kernel_rfl
def Zbi(A:Ar)(K:KT)(F:FT)(m g0 g1:Int)(xs:List Int)(ps:List AV)(n2 n3 n5:Int)(b6 b7:Bool)(j8:Nat)(n9 n10:Int):Prop:=bB (A.lt n10 2) (qB [decide (ZlT m xs=true),A.eq n10 1] (bB (A.le (ZbL m xs) n3) (rB [A.inR .i64 (A.add n9 1)] (K (Zef (m) (g0) (g1) (xs) (ps) (n2) (n3) (n5) (b6) (b7) (j8) (A.add n9 1)))) (rB [Zae (Zae (A.le 0 (nxS m n9 n10)) (Nat.blt (A.nat (nxS m n9 n10)) (A.len (AV.toIs (A.nthA ps (A.nat (A.add n3 1))))))) true,Zae (Zae (A.le 0 (A.add n3 1)) (Nat.blt (A.nat (A.add n3 1)) (A.lenA ps))) true,A.inR .i64 (A.add n3 1),A.inR .i64 (A.add (A.nth (AV.toIs (A.nthA ps (A.nat n3))) (A.nat n9)) (Option.getD (A.f2i Go.FloatKind.f32 (A.i2f Go.FloatKind.f32 (A.add (coI (A.nth [oS m g0 n9 n10,oS m g1 n9 n10] 0) (A.nth xs (A.nat (A.mul 2 n3)))) (coI (A.nth [oS m g0 n9 n10,oS m g1 n9 n10] 1) (A.nth xs (A.nat (A.add (A.mul 2 n3) 1))))))) 0)),Zae (Option.isSome (A.f2i Go.FloatKind.f32 (A.i2f Go.FloatKind.f32 (A.add (coI (A.nth [oS m g0 n9 n10,oS m g1 n9 n10] 0) (A.nth xs (A.nat (A.mul 2 n3)))) (coI (A.nth [oS m g0 n9 n10,oS m g1 n9 n10] 1) (A.nth xs (A.nat (A.add (A.mul 2 n3) 1)))))))) (A.inR .i64 (Option.getD (A.f2i Go.FloatKind.f32 (A.i2f Go.FloatKind.f32 (A.add (coI (A.nth [oS m g0 n9 n10,oS m g1 n9 n10] 0) (A.nth xs (A.nat (A.mul 2 n3)))) (coI (A.nth [oS m g0 n9 n10,oS m g1 n9 n10] 1) (A.nth xs (A.nat (A.add (A.mul 2 n3) 1))))))) 0)),Zae (Zae (A.le 0 n9) (Nat.blt (A.nat n9) (A.len (AV.toIs (A.nthA ps (A.nat n3)))))) true,Zae (Zae (A.le 0 n3) (Nat.blt (A.nat n3) (A.lenA ps))) true,A.inR .i64 (A.add (coI (A.nth [oS m g0 n9 n10,oS m g1 n9 n10] 0) (A.nth xs (A.nat (A.mul 2 n3)))) (coI (A.nth [oS m g0 n9 n10,oS m g1 n9 n10] 1) (A.nth xs (A.nat (A.add (A.mul 2 n3) 1))))),decide (-1000000≤A.nth xs (A.nat (A.add (A.mul 2 n3) 1))∧A.nth xs (A.nat (A.add (A.mul 2 n3) 1))≤1000000),Zae (Zae (A.le 0 (A.add (A.mul 2 n3) 1)) (Nat.blt (A.nat (A.add (A.mul 2 n3) 1)) (A.len xs))) true,A.inR .i64 (A.add (A.mul 2 n3) 1),A.inR .i64 (A.mul 2 n3),Nat.blt 1 (A.len [oS m g0 n9 n10,oS m g1 n9 n10]),decide (-1000000≤A.nth xs (A.nat (A.mul 2 n3))∧A.nth xs (A.nat (A.mul 2 n3))≤1000000),Zae (Zae (A.le 0 (A.mul 2 n3)) (Nat.blt (A.nat (A.mul 2 n3)) (A.len xs))) true,A.inR .i64 (A.mul 2 n3),Nat.blt 0 (A.len [oS m g0 n9 n10,oS m g1 n9 n10]),Nat.beq (A.len [oS m g0 n9 n10,oS m g1 n9 n10]) 2,Nat.blt 0 (A.len [0,0]),decide (Zcb m g0 g1 n9 n10=true)] (bB (A.lt (A.nth (AV.toIs (A.nthA ps (A.nat (A.add n3 1)))) (A.nat (nxS m n9 n10))) (A.add (A.nth (AV.toIs (A.nthA ps (A.nat n3))) (A.nat n9)) (Option.getD (A.f2i Go.FloatKind.f32 (A.i2f Go.FloatKind.f32 (A.add (coI (A.nth [oS m g0 n9 n10,oS m g1 n9 n10] 0) (A.nth xs (A.nat (A.mul 2 n3)))) (coI (A.nth [oS m g0 n9 n10,oS m g1 n9 n10] 1) (A.nth xs (A.nat (A.add (A.mul 2 n3) 1))))))) 0))) (rB [A.not false] (F (AV.tup [AV.int .i64 0,AV.int .i64 19]) (none))) (rB [!A.not true] (rB [A.inR .i64 (A.add n10 1)] (K (Zea (m) (g0) (g1) (xs) (ps) (n2) (n3) (n5) (b6) (b7) (j8) (n9) (A.add n10 1)))))))) (rB [!A.eq n10 1] (rB [Zae (Zae (A.le 0 (nxS m n9 n10)) (Nat.blt (A.nat (nxS m n9 n10)) (A.len (AV.toIs (A.nthA ps (A.nat (A.add n3 1))))))) true,Zae (Zae (A.le 0 (A.add n3 1)) (Nat.blt (A.nat (A.add n3 1)) (A.lenA ps))) true,A.inR .i64 (A.add n3 1),A.inR .i64 (A.add (A.nth (AV.toIs (A.nthA ps (A.nat n3))) (A.nat n9)) (Option.getD (A.f2i Go.FloatKind.f32 (A.i2f Go.FloatKind.f32 (A.add (coI (A.nth [oS m g0 n9 n10,oS m g1 n9 n10] 0) (A.nth xs (A.nat (A.mul 2 n3)))) (coI (A.nth [oS m g0 n9 n10,oS m g1 n9 n10] 1) (A.nth xs (A.nat (A.add (A.mul 2 n3) 1))))))) 0)),Zae (Option.isSome (A.f2i Go.FloatKind.f32 (A.i2f Go.FloatKind.f32 (A.add (coI (A.nth [oS m g0 n9 n10,oS m g1 n9 n10] 0) (A.nth xs (A.nat (A.mul 2 n3)))) (coI (A.nth [oS m g0 n9 n10,oS m g1 n9 n10] 1) (A.nth xs (A.nat (A.add (A.mul 2 n3) 1)))))))) (A.inR .i64 (Option.getD (A.f2i Go.FloatKind.f32 (A.i2f Go.FloatKind.f32 (A.add (coI (A.nth [oS m g0 n9 n10,oS m g1 n9 n10] 0) (A.nth xs (A.nat (A.mul 2 n3)))) (coI (A.nth [oS m g0 n9 n10,oS m g1 n9 n10] 1) (A.nth xs (A.nat (A.add (A.mul 2 n3) 1))))))) 0)),Zae (Zae (A.le 0 n9) (Nat.blt (A.nat n9) (A.len (AV.toIs (A.nthA ps (A.nat n3)))))) true,Zae (Zae (A.le 0 n3) (Nat.blt (A.nat n3) (A.lenA ps))) true,A.inR .i64 (A.add (coI (A.nth [oS m g0 n9 n10,oS m g1 n9 n10] 0) (A.nth xs (A.nat (A.mul 2 n3)))) (coI (A.nth [oS m g0 n9 n10,oS m g1 n9 n10] 1) (A.nth xs (A.nat (A.add (A.mul 2 n3) 1))))),decide (-1000000≤A.nth xs (A.nat (A.add (A.mul 2 n3) 1))∧A.nth xs (A.nat (A.add (A.mul 2 n3) 1))≤1000000),Zae (Zae (A.le 0 (A.add (A.mul 2 n3) 1)) (Nat.blt (A.nat (A.add (A.mul 2 n3) 1)) (A.len xs))) true,A.inR .i64 (A.add (A.mul 2 n3) 1),A.inR .i64 (A.mul 2 n3),Nat.blt 1 (A.len [oS m g0 n9 n10,oS m g1 n9 n10]),decide (-1000000≤A.nth xs (A.nat (A.mul 2 n3))∧A.nth xs (A.nat (A.mul 2 n3))≤1000000),Zae (Zae (A.le 0 (A.mul 2 n3)) (Nat.blt (A.nat (A.mul 2 n3)) (A.len xs))) true,A.inR .i64 (A.mul 2 n3),Nat.blt 0 (A.len [oS m g0 n9 n10,oS m g1 n9 n10]),Nat.beq (A.len [oS m g0 n9 n10,oS m g1 n9 n10]) 2,Nat.blt 0 (A.len [0,0]),decide (Zcb m g0 g1 n9 n10=true)] (bB (A.lt (A.nth (AV.toIs (A.nthA ps (A.nat (A.add n3 1)))) (A.nat (nxS m n9 n10))) (A.add (A.nth (AV.toIs (A.nthA ps (A.nat n3))) (A.nat n9)) (Option.getD (A.f2i Go.FloatKind.f32 (A.i2f Go.FloatKind.f32 (A.add (coI (A.nth [oS m g0 n9 n10,oS m g1 n9 n10] 0) (A.nth xs (A.nat (A.mul 2 n3)))) (coI (A.nth [oS m g0 n9 n10,oS m g1 n9 n10] 1) (A.nth xs (A.nat (A.add (A.mul 2 n3) 1))))))) 0))) (rB [A.not false] (F (AV.tup [AV.int .i64 0,AV.int .i64 19]) (none))) (rB [!A.not true] (rB [A.inR .i64 (A.add n10 1)] (K (Zea (m) (g0) (g1) (xs) (ps) (n2) (n3) (n5) (b6) (b7) (j8) (n9) (A.add n10 1))))))))) (rB [A.inR .i64 (A.add n9 1)] (K (Zef (m) (g0) (g1) (xs) (ps) (n2) (n3) (n5) (b6) (b7) (j8) (A.add n9 1))))
theorem Zex{A:Ar}{K:KT}{F:FT}{M:MT}{m g0 g1:Int}{xs:List Int}{ps:List AV}{n2 n3 n5:Int}{b6 b7:Bool}{j8:Nat}{n9 n10:Int} :Zap A tab N6 35 K F M (.run 6 (.tf (.run 10 (.tf (.run 1 (.tf (.run 8 (.hd)) (.run 38 (.tf (.run 9 (.ty (.run 5 (.fn)))) (.run 6 (.fy (.run 8 (.hd)))))))) (.run 1 (.fy (.run 38 (.tf (.run 9 (.ty (.run 5 (.fn)))) (.run 6 (.fy (.run 8 (.hd)))))))))) (.run 8 (.hd)))) (ZdU m g0 g1 xs ps n2 n3 n5 b6 b7 j8 n9 n10) (ZcM m g0 g1 xs ps n2 n3 n5 b6 b7 j8 n9 n10)=Zbi A K F m g0 g1 xs ps n2 n3 n5 b6 b7 j8 n9 n10:=by kernel_rfl
def Zyz(m g0 g1:Int):AFrame:={ fn:=32,N:=82,env:=[(0,AV.agg (Row.gen [.int .i64 m, .int .i64 g0, .int .i64 g1]))],todo:=[.code a32.code],defs:=[],rnd:=none,ret:=false,res:=[ARes.tmp 2,ARes.tmp 3] }
def ZGg(m g0 g1:Int):List AFrame:=[(Zyz m g0 g1)]
theorem Zv0(m g0 g1:Int):Zas tab 32 [AV.agg (Row.gen [.int .i64 m, .int .i64 g0, .int .i64 g1])]=some (Zyz m g0 g1):=rfl
def ZeL(m g0 g1 n0 n1:Int)(l2:List Int)(n3 n4:Int):List AFrame:=[{ fn:=32,N:=82,env:=[(5,AV.fn 81 [AV.ptr 32002 0 0 0]),(6,AV.int .i64 n0),(7,AV.row 32027 0),(10,AV.int .i64 n4),(37,AV.int .i64 n1),(38,AV.int .i64 n3)],todo:=.code (ACode.gh [] ZB3)::ZDO,defs:=[],rnd:=none,ret:=false,res:=[ARes.tmp 2,ARes.tmp 3] }]
def ZdD(m g0 g1 n0 n1:Int)(l2:List Int)(n3 n4:Int):Zac:=[(32002,{ base:=0,blks:=[Blk.row 24 3 (Row.gen [AV.agg (Row.gen [AV.int .i64 m,AV.int .i64 g0,AV.int .i64 g1])])] }),(32027,{ base:=0,blks:=[Blk.row 3 1 (.ints .i64 l2)] })]
abbrev Zik(m g0 g1 n0 n1:Int)(l2:List Int)(n3 n4:Int):List AFrame×Zac:=(ZeL m g0 g1 n0 n1 l2 n3 n4,ZdD m g0 g1 n0 n1 l2 n3 n4)
def Zg0(m g0 g1 n0 n1 n3 n5 n6:Int)(l7:List Int):List AFrame:=[{ fn:=32,N:=82,env:=[(5,AV.fn 81 [AV.ptr 32002 0 0 0]),(6,AV.int .i64 n0),(7,AV.row 32027 0),(10,AV.int .i64 n5),(11,AV.int .i64 n6),(37,AV.int .i64 n1),(38,AV.int .i64 n3)],todo:=.code (ACode.gh [] Zzh)::ZEz,defs:=[],rnd:=none,ret:=false,res:=[ARes.tmp 2,ARes.tmp 3] }]
def ZfH(m g0 g1 n0 n1 n3 n5 n6:Int)(l7:List Int):Zac:=[(32002,{ base:=0,blks:=[Blk.row 24 3 (Row.gen [AV.agg (Row.gen [AV.int .i64 m,AV.int .i64 g0,AV.int .i64 g1])])] }),(32027,{ base:=0,blks:=[Blk.row 3 1 (.ints .i64 l7)] })]
abbrev ZiB(m g0 g1 n0 n1 n3 n5 n6:Int)(l7:List Int):List AFrame×Zac:=(Zg0 m g0 g1 n0 n1 n3 n5 n6 l7,ZfH m g0 g1 n0 n1 n3 n5 n6 l7)
def ZeI(m g0 g1 n0 n1 n3 n6 n8 n9:Int)(l10:List Int):List AFrame:=[{ fn:=32,N:=82,env:=[(5,AV.fn 81 [AV.ptr 32002 0 0 0]),(6,AV.int .i64 n0),(7,AV.row 32027 0),(10,AV.int .i64 n8),(11,AV.int .i64 n6),(37,AV.int .i64 n1),(38,AV.int .i64 n3),(45,AV.int .i64 n9)],todo:=.code (ACode.gh [] ZBG)::ZEG,defs:=[],rnd:=none,ret:=false,res:=[ARes.tmp 2,ARes.tmp 3] }]
def Zdx(m g0 g1 n0 n1 n3 n6 n8 n9:Int)(l10:List Int):Zac:=[(32002,{ base:=0,blks:=[Blk.row 24 3 (Row.gen [AV.agg (Row.gen [AV.int .i64 m,AV.int .i64 g0,AV.int .i64 g1])])] }),(32027,{ base:=0,blks:=[Blk.row 3 1 (.ints .i64 l10)] })]
abbrev ZfA(m g0 g1 n0 n1 n3 n6 n8 n9:Int)(l10:List Int):List AFrame×Zac:=(ZeI m g0 g1 n0 n1 n3 n6 n8 n9 l10,Zdx m g0 g1 n0 n1 n3 n6 n8 n9 l10)
def ZvS(A:Ar)(K:KT)(F:FT)(m g0 g1:Int):Prop:=bB (A.not (A.eq (ZaE m g0 g1) 0)) (F (AV.tup [AV.int .i64 0,AV.int .i64 (ZaE m g0 g1)]) (none)) (rB [A.inR .i64 (A.add (A.shl 1 m) 1),Zae (Nat.blt (A.nat (nxS m 0 1)) (A.len (List.replicate (Int.toNat (A.shl 1 m)) 100000))) true,Zae (A.le 0 (nxS m 0 1)) (Nat.blt (A.nat (nxS m 0 1)) (A.len (List.replicate (Int.toNat (A.shl 1 m)) 100000))),A.inR .i64 (A.add (A.nth [oS m g0 0 1,oS m g1 0 1] 0) (A.nth [oS m g0 0 1,oS m g1 0 1] 1)),Nat.blt 1 (A.len [oS m g0 0 1,oS m g1 0 1]),Nat.blt 0 (A.len [oS m g0 0 1,oS m g1 0 1]),Nat.beq (A.len [oS m g0 0 1,oS m g1 0 1]) 2,Nat.blt 0 (A.len [0,0]),decide (Zcb m g0 g1 0 1=true),decide (ZtZ (A.shl 1 m)=true),List.all [AV.int .i64 100000] fun x=>AV.bx x&&Nat.beq (Zao A x) 1,Zae (Zae (A.le 0 m) (Nat.blt (A.nat m) 64)) (A.inR .i64 (A.shl 1 m))] (K (Zik (m) (g0) (g1) (A.shl 1 m) (A.add (A.shl 1 m) 1) (A.set (List.replicate (Int.toNat (A.shl 1 m)) 100000) (A.nat (nxS m 0 1)) (A.add (A.nth [oS m g0 0 1,oS m g1 0 1] 0) (A.nth [oS m g0 0 1,oS m g1 0 1] 1))) (0) (100000))))
theorem ZDl{A:Ar}{K:KT}{F:FT}{M:MT}{m g0 g1:Int} :Zap A tab N6 32 K F M (.run 18 (.tf (.run 7 (.fn)) (.run 76 (.hd)))) (ZGg m g0 g1) []=ZvS A K F m g0 g1:=by kernel_rfl
def Zgi(A:Ar)(K:KT)(F:FT)(m g0 g1 n0 n1:Int)(l2:List Int)(n3 n4:Int):Prop:=bB (A.lt n3 n1) (K (ZiB (m) (g0) (g1) (n0) (n1) (n3) (n4) (1) (l2))) (F (AV.tup [AV.int .i64 n4,AV.int .i64 0]) (none))
theorem Ziz{A:Ar}{K:KT}{F:FT}{M:MT}{m g0 g1 n0 n1:Int}{l2:List Int}{n3 n4:Int} :Zap A tab N6 32 K F M (.run 6 (.tf (.run 10 (.hd)) (.run 8 (.fn)))) (ZeL m g0 g1 n0 n1 l2 n3 n4) (ZdD m g0 g1 n0 n1 l2 n3 n4)=Zgi A K F m g0 g1 n0 n1 l2 n3 n4:=by kernel_rfl
def ZfR(A:Ar)(K:KT)(F:FT)(m g0 g1 n0 n1 n3 n5 n6:Int)(l7:List Int):Prop:=bB (A.lt n6 n0) (K (ZfA (m) (g0) (g1) (n0) (n1) (n3) (n6) (n5) (0) (l7))) (rB [A.inR .i64 (A.add n3 1)] (K (Zik (m) (g0) (g1) (n0) (n1) (l7) (A.add n3 1) (n5))))
theorem Zjk{A:Ar}{K:KT}{F:FT}{M:MT}{m g0 g1 n0 n1 n3 n5 n6:Int}{l7:List Int} :Zap A tab N6 32 K F M (.run 8 (.tf (.run 10 (.hd)) (.run 8 (.hd)))) (Zg0 m g0 g1 n0 n1 n3 n5 n6 l7) (ZfH m g0 g1 n0 n1 n3 n5 n6 l7)=ZfR A K F m g0 g1 n0 n1 n3 n5 n6 l7:=by kernel_rfl
def Zdq(A:Ar)(K:KT)(F:FT)(m g0 g1 n0 n1 n3 n6 n8 n9:Int)(l10:List Int):Prop:=bB (A.lt n9 2) (rB [A.inR .i64 (A.add (A.nth [oS m g0 n6 n9,oS m g1 n6 n9] 0) (A.nth [oS m g0 n6 n9,oS m g1 n6 n9] 1)),Nat.blt 1 (A.len [oS m g0 n6 n9,oS m g1 n6 n9]),Nat.blt 0 (A.len [oS m g0 n6 n9,oS m g1 n6 n9]),Nat.beq (A.len [oS m g0 n6 n9,oS m g1 n6 n9]) 2,Nat.blt 0 (A.len [0,0]),decide (Zcb m g0 g1 n6 n9=true)] (bB (A.eq (nxS m n6 n9) 0) (rB [A.inR .i64 (A.add n9 1),A.inR .i64 (A.add (A.nth l10 (A.nat n6)) (A.add (A.nth [oS m g0 n6 n9,oS m g1 n6 n9] 0) (A.nth [oS m g0 n6 n9,oS m g1 n6 n9] 1))),Zae (Nat.blt (A.nat n6) (A.len l10)) true,Zae (A.le 0 n6) (Nat.blt (A.nat n6) (A.len l10))] (K (ZfA (m) (g0) (g1) (n0) (n1) (n3) (n6) (A.min n8 (A.add (A.nth l10 (A.nat n6)) (A.add (A.nth [oS m g0 n6 n9,oS m g1 n6 n9] 0) (A.nth [oS m g0 n6 n9,oS m g1 n6 n9] 1)))) (A.add n9 1) (l10)))) (rB [A.inR .i64 (A.add n9 1),Zae (Nat.blt (A.nat (nxS m n6 n9)) (A.len l10)) true,Zae (A.le 0 (nxS m n6 n9)) (Nat.blt (A.nat (nxS m n6 n9)) (A.len l10)),A.inR .i64 (A.add (A.nth l10 (A.nat n6)) (A.add (A.nth [oS m g0 n6 n9,oS m g1 n6 n9] 0) (A.nth [oS m g0 n6 n9,oS m g1 n6 n9] 1))),Zae (Nat.blt (A.nat n6) (A.len l10)) true,Zae (A.le 0 n6) (Nat.blt (A.nat n6) (A.len l10)),Zae (Nat.blt (A.nat (nxS m n6 n9)) (A.len l10)) true,Zae (A.le 0 (nxS m n6 n9)) (Nat.blt (A.nat (nxS m n6 n9)) (A.len l10))] (K (ZfA (m) (g0) (g1) (n0) (n1) (n3) (n6) (n8) (A.add n9 1) (A.set l10 (A.nat (nxS m n6 n9)) (A.min (A.nth l10 (A.nat (nxS m n6 n9))) (A.add (A.nth l10 (A.nat n6)) (A.add (A.nth [oS m g0 n6 n9,oS m g1 n6 n9] 0) (A.nth [oS m g0 n6 n9,oS m g1 n6 n9] 1)))))))))) (rB [A.inR .i64 (A.add n6 1)] (K (ZiB (m) (g0) (g1) (n0) (n1) (n3) (n8) (A.add n6 1) (l10))))
theorem Zih{A:Ar}{K:KT}{F:FT}{M:MT}{m g0 g1 n0 n1 n3 n6 n8 n9:Int}{l10:List Int} :Zap A tab N6 32 K F M (.run 6 (.tf (.run 51 (.tf (.run 20 (.hd)) (.run 9 (.hd)))) (.run 9 (.hd)))) (ZeI m g0 g1 n0 n1 n3 n6 n8 n9 l10) (Zdx m g0 g1 n0 n1 n3 n6 n8 n9 l10)=Zdq A K F m g0 g1 n0 n1 n3 n6 n8 n9 l10:=by kernel_rfl
end Go.Proofs.Ytklbmkllepkjcaa
