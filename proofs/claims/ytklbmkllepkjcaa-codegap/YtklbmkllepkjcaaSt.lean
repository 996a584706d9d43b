/- Calls at given values. Printed by facts.py. -/
import Derived.Test.YtklbmkllepkjcaaP8
import Derived.KernelRfl
namespace Go.Proofs.Ytklbmkllepkjcaa
set_option maxRecDepth 1000000
def aw0:Fact:=⟨58,[],(.agg (.gen [(.int .i64 2),(.int .i64 7),(.int .i64 5)])),none⟩
theorem ZAy:Zah Try.prog aw0.f aw0.args aw0.r aw0.fr:=Zab (n:=100000) (l:=[]) follows Zad trivial (by kernel_rfl)
def aw1:Fact:=⟨59,[],(.row 0 0),(some ⟨3,1,(.ints .i64 [(-1),(-1),1,1,(-1),(-1),1,1])⟩)⟩
theorem ZBv:Zah Try.prog aw1.f aw1.args aw1.r aw1.fr:=Zab (n:=100000) (l:=[]) follows Zad trivial (by kernel_rfl)
def aw2:Fact:=⟨91,[(.int .i64 2),(.int .i64 1),(.int .i64 3)],(.bool true),none⟩
theorem Zy3:Zah Try.prog aw2.f aw2.args aw2.r aw2.fr:=Zab (n:=100000) (l:=[]) follows Zad trivial (by kernel_rfl)
def aw3:Fact:=⟨91,[(.int .i64 7),(.int .i64 1),(.int .i64 7)],(.bool true),none⟩
theorem Zzx:Zah Try.prog aw3.f aw3.args aw3.r aw3.fr:=Zab (n:=100000) (l:=[]) follows Zad trivial (by kernel_rfl)
def aw4:Fact:=⟨111,[(.int .i64 7),(.eptr (.int .i64 1) 0),(.eptr (.int .i64 7) 0)],(.bool false),none⟩
theorem ZAi:Zah Try.prog aw4.f aw4.args aw4.r aw4.fr:=Zab (n:=100000) (l:=[aw3]) follows Zad ⟨Zzx,trivial⟩ (by kernel_rfl)
def aw5:Fact:=⟨91,[(.int .i64 5),(.int .i64 1),(.int .i64 7)],(.bool true),none⟩
theorem ZzD:Zah Try.prog aw5.f aw5.args aw5.r aw5.fr:=Zab (n:=100000) (l:=[]) follows Zad trivial (by kernel_rfl)
def aw6:Fact:=⟨111,[(.int .i64 5),(.eptr (.int .i64 1) 0),(.eptr (.int .i64 7) 0)],(.bool false),none⟩
theorem Zx3:Zah Try.prog aw6.f aw6.args aw6.r aw6.fr:=Zab (n:=100000) (l:=[aw5]) follows Zad ⟨ZzD,trivial⟩ (by kernel_rfl)
def aw7:Fact:=⟨123,[(.list (.ints .i64 [7,5])),(.fn 111 [(.eptr (.int .i64 1) 0),(.eptr (.int .i64 7) 0)])],(.int .i64 (-1)),none⟩
theorem ZBn:Zah Try.prog aw7.f aw7.args aw7.r aw7.fr:=Zab (n:=100000) (l:=[aw4,aw6]) follows Zad ⟨ZAi,⟨Zx3,trivial⟩⟩ (by kernel_rfl)
def aw8:Fact:=⟨110,[(.list (.ints .i64 [7,5])),(.fn 111 [(.eptr (.int .i64 1) 0),(.eptr (.int .i64 7) 0)])],(.bool false),none⟩
theorem ZA3:Zah Try.prog aw8.f aw8.args aw8.r aw8.fr:=Zab (n:=100000) (l:=[aw7]) follows Zad ⟨ZBn,trivial⟩ (by kernel_rfl)
def aw9:Fact:=⟨85,[(.bool true),(.int .i64 2)],(.int .i64 0),none⟩
theorem Zhe:Zah Try.prog aw9.f aw9.args aw9.r aw9.fr:=Zab (n:=100000) (l:=[]) follows Zad trivial (by kernel_rfl)
def aw10:Fact:=⟨70,[(.list (.ints .i64 [7,5])),(.int .i64 1),(.int .i64 7)],(.int .i64 0),none⟩
theorem Zus:Zah Try.prog aw10.f aw10.args aw10.r aw10.fr:=Zab (n:=100000) (l:=[aw8,aw9]) follows Zad ⟨ZA3,⟨Zhe,trivial⟩⟩ (by kernel_rfl)
def aw11:Fact:=⟨63,[(.agg (.gen [(.int .i64 2),(.int .i64 7),(.int .i64 5)]))],(.int .i64 0),none⟩
theorem ZqK:Zah Try.prog aw11.f aw11.args aw11.r aw11.fr:=Zab (n:=100000) (l:=[aw2,aw10]) follows Zad ⟨Zy3,⟨Zus,trivial⟩⟩ (by kernel_rfl)
def aw12:Fact:=⟨85,[(.bool true),(.int .i64 10)],(.int .i64 0),none⟩
theorem Zma:Zah Try.prog aw12.f aw12.args aw12.r aw12.fr:=Zab (n:=100000) (l:=[]) follows Zad trivial (by kernel_rfl)
def aw13:Fact:=⟨85,[(.bool true),(.int .i64 8)],(.int .i64 0),none⟩
theorem Zqt:Zah Try.prog aw13.f aw13.args aw13.r aw13.fr:=Zab (n:=100000) (l:=[]) follows Zad trivial (by kernel_rfl)
def aw14:Fact:=⟨91,[(.int .i64 (-1)),(.int .i64 (-7)),(.int .i64 7)],(.bool true),none⟩
theorem ZuL:Zah Try.prog aw14.f aw14.args aw14.r aw14.fr:=Zab (n:=100000) (l:=[]) follows Zad trivial (by kernel_rfl)
def aw15:Fact:=⟨111,[(.int .i64 (-1)),(.eptr (.int .i64 (-7)) 0),(.eptr (.int .i64 7) 0)],(.bool false),none⟩
theorem Zwq:Zah Try.prog aw15.f aw15.args aw15.r aw15.fr:=Zab (n:=100000) (l:=[aw14]) follows Zad ⟨ZuL,trivial⟩ (by kernel_rfl)
def aw16:Fact:=⟨91,[(.int .i64 1),(.int .i64 (-7)),(.int .i64 7)],(.bool true),none⟩
theorem Zwu:Zah Try.prog aw16.f aw16.args aw16.r aw16.fr:=Zab (n:=100000) (l:=[]) follows Zad trivial (by kernel_rfl)
def aw17:Fact:=⟨111,[(.int .i64 1),(.eptr (.int .i64 (-7)) 0),(.eptr (.int .i64 7) 0)],(.bool false),none⟩
theorem Zwc:Zah Try.prog aw17.f aw17.args aw17.r aw17.fr:=Zab (n:=100000) (l:=[aw16]) follows Zad ⟨Zwu,trivial⟩ (by kernel_rfl)
def aw18:Fact:=⟨123,[(.list (.ints .i64 [(-1),(-1),1,1,(-1),(-1),1,1])),(.fn 111 [(.eptr (.int .i64 (-7)) 0),(.eptr (.int .i64 7) 0)])],(.int .i64 (-1)),none⟩
theorem Zv2:Zah Try.prog aw18.f aw18.args aw18.r aw18.fr:=Zab (n:=100000) (l:=[aw15,aw17]) follows Zad ⟨Zwq,⟨Zwc,trivial⟩⟩ (by kernel_rfl)
def aw19:Fact:=⟨110,[(.list (.ints .i64 [(-1),(-1),1,1,(-1),(-1),1,1])),(.fn 111 [(.eptr (.int .i64 (-7)) 0),(.eptr (.int .i64 7) 0)])],(.bool false),none⟩
theorem ZvY:Zah Try.prog aw19.f aw19.args aw19.r aw19.fr:=Zab (n:=100000) (l:=[aw18]) follows Zad ⟨Zv2,trivial⟩ (by kernel_rfl)
def aw20:Fact:=⟨70,[(.list (.ints .i64 [(-1),(-1),1,1,(-1),(-1),1,1])),(.int .i64 (-7)),(.int .i64 7)],(.int .i64 0),none⟩
theorem Zxf:Zah Try.prog aw20.f aw20.args aw20.r aw20.fr:=Zab (n:=100000) (l:=[aw19,aw9]) follows Zad ⟨ZvY,⟨Zhe,trivial⟩⟩ (by kernel_rfl)
def aw21:Fact:=⟨72,[(.list (.ints .i64 [0,0,0]))],(.int .i64 0),none⟩
theorem ZqA:Zah Try.prog aw21.f aw21.args aw21.r aw21.fr:=Zab (n:=100000) (l:=[]) follows Zad trivial (by kernel_rfl)
def aw22:Fact:=⟨64,[(.agg (.gen [(.int .i64 2),(.int .i64 7),(.int .i64 5)])),(.list (.ints .i64 [(-1),(-1),1,1,(-1),(-1),1,1]))],(.int .i64 0),none⟩
theorem ZuH:Zah Try.prog aw22.f aw22.args aw22.r aw22.fr:=Zab (n:=100000) (l:=[aw12,aw13,aw20,aw21]) follows Zad ⟨Zma,⟨Zqt,⟨Zxf,⟨ZqA,trivial⟩⟩⟩⟩ (by kernel_rfl)
def aw23:Fact:=⟨84,[(.agg (.gen [(.int .i64 2),(.int .i64 7),(.int .i64 5),(.list (.ints .i64 [(-1),(-1),1,1,(-1),(-1),1,1]))]))],(.int .i64 4),none⟩
theorem Zp3:Zah Try.prog aw23.f aw23.args aw23.r aw23.fr:=Zab (n:=100000) (l:=[]) follows Zad trivial (by kernel_rfl)
def aw24:Fact:=⟨86,[(.agg (.gen [(.int .i64 2),(.int .i64 7),(.int .i64 5),(.list (.ints .i64 [(-1),(-1),1,1,(-1),(-1),1,1]))]))],(.int .i64 4),none⟩
theorem Zun:Zah Try.prog aw24.f aw24.args aw24.r aw24.fr:=Zab (n:=100000) (l:=[]) follows Zad trivial (by kernel_rfl)
def aw25:Fact:=⟨127,[(.int .u64 1),(.int .u64 4)],(.tup [(.int .u64 0),(.int .u64 4)]),none⟩
theorem ZwM:Zah Try.prog aw25.f aw25.args aw25.r aw25.fr:=Zab (n:=100000) (l:=[]) follows Zad trivial (by kernel_rfl)
def aw26:Fact:=⟨114,[(.int .u64 1),(.int .u64 4)],(.tup [(.int .u64 0),(.int .u64 4)]),none⟩
theorem Zpo:Zah Try.prog aw26.f aw26.args aw26.r aw26.fr:=Zab (n:=100000) (l:=[aw25]) follows Zad ⟨ZwM,trivial⟩ (by kernel_rfl)
def aw27:Fact:=⟨122,[(.list (.flts .f32 [3351465984])),(.int .i64 4)],(.row 0 0),(some ⟨118,1,(.flts .f32 [3351465984,3351465984,3351465984,3351465984])⟩)⟩
theorem ZwT:Zah Try.prog aw27.f aw27.args aw27.r aw27.fr:=Zab (n:=100000) (l:=[aw26]) follows Zad ⟨Zpo,trivial⟩ (by kernel_rfl)
def aw28:Fact:=⟨125,[(.int .u64 0)],(.int .i64 0),none⟩
theorem Zvm:Zah Try.prog aw28.f aw28.args aw28.r aw28.fr:=Zab (n:=100000) (l:=[]) follows Zad trivial (by kernel_rfl)
def aw29:Fact:=⟨113,[(.int .u64 0)],(.int .i64 0),none⟩
theorem ZpR:Zah Try.prog aw29.f aw29.args aw29.r aw29.fr:=Zab (n:=100000) (l:=[aw28]) follows Zad ⟨Zvm,trivial⟩ (by kernel_rfl)
def aw30:Fact:=⟨82,[(.agg (.gen [(.int .i64 2),(.int .i64 7),(.int .i64 5)])),(.int .i64 0),(.int .i64 0)],(.tup [(.int .i64 0),(.agg (.ints .i64 [0,0]))]),none⟩
theorem Zvj:Zah Try.prog aw30.f aw30.args aw30.r aw30.fr:=Zab (n:=100000) (l:=[aw29]) follows Zad ⟨ZpR,trivial⟩ (by kernel_rfl)
def aw31:Fact:=⟨89,[(.int .i64 0),(.int .i64 1)],(.int .i64 1),none⟩
theorem ZuB:Zah Try.prog aw31.f aw31.args aw31.r aw31.fr:=Zab (n:=100000) (l:=[]) follows Zad trivial (by kernel_rfl)
def aw32:Fact:=⟨108,[(.agg (.gen [(.int .i64 2),(.int .i64 7),(.int .i64 5),(.list (.ints .i64 [(-1),(-1),1,1,(-1),(-1),1,1]))]))],(.int .i64 2),none⟩
theorem Zuw:Zah Try.prog aw32.f aw32.args aw32.r aw32.fr:=Zab (n:=100000) (l:=[aw23]) follows Zad ⟨Zp3,trivial⟩ (by kernel_rfl)
def aw33:Fact:=⟨125,[(.int .u64 1)],(.int .i64 1),none⟩
theorem Zu3:Zah Try.prog aw33.f aw33.args aw33.r aw33.fr:=Zab (n:=100000) (l:=[]) follows Zad trivial (by kernel_rfl)
def aw34:Fact:=⟨113,[(.int .u64 1)],(.int .i64 1),none⟩
theorem Zp9:Zah Try.prog aw34.f aw34.args aw34.r aw34.fr:=Zab (n:=100000) (l:=[aw33]) follows Zad ⟨Zu3,trivial⟩ (by kernel_rfl)
def aw35:Fact:=⟨82,[(.agg (.gen [(.int .i64 2),(.int .i64 7),(.int .i64 5)])),(.int .i64 1),(.int .i64 0)],(.tup [(.int .i64 0),(.agg (.ints .i64 [1,1]))]),none⟩
theorem Zp1:Zah Try.prog aw35.f aw35.args aw35.r aw35.fr:=Zab (n:=100000) (l:=[aw34]) follows Zad ⟨Zp9,trivial⟩ (by kernel_rfl)
def aw36:Fact:=⟨89,[(.int .i64 1),(.int .i64 1)],(.int .i64 (-1)),none⟩
theorem Zww:Zah Try.prog aw36.f aw36.args aw36.r aw36.fr:=Zab (n:=100000) (l:=[]) follows Zad trivial (by kernel_rfl)
def aw37:Fact:=⟨125,[(.int .u64 2)],(.int .i64 1),none⟩
theorem Zu7:Zah Try.prog aw37.f aw37.args aw37.r aw37.fr:=Zab (n:=100000) (l:=[]) follows Zad trivial (by kernel_rfl)
def aw38:Fact:=⟨113,[(.int .u64 2)],(.int .i64 1),none⟩
theorem ZuW:Zah Try.prog aw38.f aw38.args aw38.r aw38.fr:=Zab (n:=100000) (l:=[aw37]) follows Zad ⟨Zu7,trivial⟩ (by kernel_rfl)
def aw39:Fact:=⟨82,[(.agg (.gen [(.int .i64 2),(.int .i64 7),(.int .i64 5)])),(.int .i64 2),(.int .i64 0)],(.tup [(.int .i64 1),(.agg (.ints .i64 [1,0]))]),none⟩
theorem ZpM:Zah Try.prog aw39.f aw39.args aw39.r aw39.fr:=Zab (n:=100000) (l:=[aw38,aw29]) follows Zad ⟨ZuW,⟨ZpR,trivial⟩⟩ (by kernel_rfl)
def aw40:Fact:=⟨125,[(.int .u64 3)],(.int .i64 2),none⟩
theorem Zwo:Zah Try.prog aw40.f aw40.args aw40.r aw40.fr:=Zab (n:=100000) (l:=[]) follows Zad trivial (by kernel_rfl)
def aw41:Fact:=⟨113,[(.int .u64 3)],(.int .i64 2),none⟩
theorem Zut:Zah Try.prog aw41.f aw41.args aw41.r aw41.fr:=Zab (n:=100000) (l:=[aw40]) follows Zad ⟨Zwo,trivial⟩ (by kernel_rfl)
def aw42:Fact:=⟨82,[(.agg (.gen [(.int .i64 2),(.int .i64 7),(.int .i64 5)])),(.int .i64 3),(.int .i64 0)],(.tup [(.int .i64 1),(.agg (.ints .i64 [0,1]))]),none⟩
theorem ZoW:Zah Try.prog aw42.f aw42.args aw42.r aw42.fr:=Zab (n:=100000) (l:=[aw41,aw34]) follows Zad ⟨Zut,⟨Zp9,trivial⟩⟩ (by kernel_rfl)
def aw43:Fact:=⟨89,[(.int .i64 0),(.int .i64 (-1))],(.int .i64 (-1)),none⟩
theorem ZwG:Zah Try.prog aw43.f aw43.args aw43.r aw43.fr:=Zab (n:=100000) (l:=[]) follows Zad trivial (by kernel_rfl)
def aw44:Fact:=⟨89,[(.int .i64 1),(.int .i64 (-1))],(.int .i64 1),none⟩
theorem Zva:Zah Try.prog aw44.f aw44.args aw44.r aw44.fr:=Zab (n:=100000) (l:=[]) follows Zad trivial (by kernel_rfl)
def aw45:Fact:=⟨125,[(.int .u64 4)],(.int .i64 1),none⟩
theorem Zvr:Zah Try.prog aw45.f aw45.args aw45.r aw45.fr:=Zab (n:=100000) (l:=[]) follows Zad trivial (by kernel_rfl)
def aw46:Fact:=⟨113,[(.int .u64 4)],(.int .i64 1),none⟩
theorem ZpK:Zah Try.prog aw46.f aw46.args aw46.r aw46.fr:=Zab (n:=100000) (l:=[aw45]) follows Zad ⟨Zvr,trivial⟩ (by kernel_rfl)
def aw47:Fact:=⟨82,[(.agg (.gen [(.int .i64 2),(.int .i64 7),(.int .i64 5)])),(.int .i64 0),(.int .i64 1)],(.tup [(.int .i64 2),(.agg (.ints .i64 [1,1]))]),none⟩
theorem Zpx:Zah Try.prog aw47.f aw47.args aw47.r aw47.fr:=Zab (n:=100000) (l:=[aw46]) follows Zad ⟨ZpK,trivial⟩ (by kernel_rfl)
def aw48:Fact:=⟨125,[(.int .u64 5)],(.int .i64 2),none⟩
theorem Zwe:Zah Try.prog aw48.f aw48.args aw48.r aw48.fr:=Zab (n:=100000) (l:=[]) follows Zad trivial (by kernel_rfl)
def aw49:Fact:=⟨113,[(.int .u64 5)],(.int .i64 2),none⟩
theorem Zqp:Zah Try.prog aw49.f aw49.args aw49.r aw49.fr:=Zab (n:=100000) (l:=[aw48]) follows Zad ⟨Zwe,trivial⟩ (by kernel_rfl)
def aw50:Fact:=⟨82,[(.agg (.gen [(.int .i64 2),(.int .i64 7),(.int .i64 5)])),(.int .i64 1),(.int .i64 1)],(.tup [(.int .i64 2),(.agg (.ints .i64 [0,0]))]),none⟩
theorem Zqb:Zah Try.prog aw50.f aw50.args aw50.r aw50.fr:=Zab (n:=100000) (l:=[aw49]) follows Zad ⟨Zqp,trivial⟩ (by kernel_rfl)
def aw51:Fact:=⟨125,[(.int .u64 6)],(.int .i64 2),none⟩
theorem Zuv:Zah Try.prog aw51.f aw51.args aw51.r aw51.fr:=Zab (n:=100000) (l:=[]) follows Zad trivial (by kernel_rfl)
def aw52:Fact:=⟨113,[(.int .u64 6)],(.int .i64 2),none⟩
theorem Zuz:Zah Try.prog aw52.f aw52.args aw52.r aw52.fr:=Zab (n:=100000) (l:=[aw51]) follows Zad ⟨Zuv,trivial⟩ (by kernel_rfl)
def aw53:Fact:=⟨82,[(.agg (.gen [(.int .i64 2),(.int .i64 7),(.int .i64 5)])),(.int .i64 2),(.int .i64 1)],(.tup [(.int .i64 3),(.agg (.ints .i64 [0,1]))]),none⟩
theorem ZoH:Zah Try.prog aw53.f aw53.args aw53.r aw53.fr:=Zab (n:=100000) (l:=[aw52,aw46]) follows Zad ⟨Zuz,⟨ZpK,trivial⟩⟩ (by kernel_rfl)
def aw54:Fact:=⟨125,[(.int .u64 7)],(.int .i64 3),none⟩
theorem Zxb:Zah Try.prog aw54.f aw54.args aw54.r aw54.fr:=Zab (n:=100000) (l:=[]) follows Zad trivial (by kernel_rfl)
def aw55:Fact:=⟨113,[(.int .u64 7)],(.int .i64 3),none⟩
theorem ZvZ:Zah Try.prog aw55.f aw55.args aw55.r aw55.fr:=Zab (n:=100000) (l:=[aw54]) follows Zad ⟨Zxb,trivial⟩ (by kernel_rfl)
def aw56:Fact:=⟨82,[(.agg (.gen [(.int .i64 2),(.int .i64 7),(.int .i64 5)])),(.int .i64 3),(.int .i64 1)],(.tup [(.int .i64 3),(.agg (.ints .i64 [1,0]))]),none⟩
theorem Zph:Zah Try.prog aw56.f aw56.args aw56.r aw56.fr:=Zab (n:=100000) (l:=[aw55,aw49]) follows Zad ⟨ZvZ,⟨Zqp,trivial⟩⟩ (by kernel_rfl)
def aw57:Fact:=⟨65,[(.agg (.gen [(.int .i64 2),(.int .i64 7),(.int .i64 5),(.list (.ints .i64 [(-1),(-1),1,1,(-1),(-1),1,1]))]))],(.tup [(.row 0 0),(.int .i64 6)]),(some ⟨3,1,(.ints .i64 [1,0])⟩)⟩
theorem ZvL:Zah Try.prog aw57.f aw57.args aw57.r aw57.fr:=Zab (n:=100000) (l:=[aw23,aw24,aw27,aw30,aw31,aw32,aw35,aw36,aw39,aw42,aw43,aw44,aw47,aw50,aw53,aw56]) follows Zad ⟨Zp3,⟨Zun,⟨ZwT,⟨Zvj,⟨ZuB,⟨Zuw,⟨Zp1,⟨Zww,⟨ZpM,⟨ZoW,⟨ZwG,⟨Zva,⟨Zpx,⟨Zqb,⟨ZoH,⟨Zph,trivial⟩⟩⟩⟩⟩⟩⟩⟩⟩⟩⟩⟩⟩⟩⟩⟩ (by kernel_rfl)
def aw58:Fact:=⟨13,[(.agg (.gen [(.int .i64 2),(.int .i64 7),(.int .i64 5)])),(.list (.ints .i64 [(-1),(-1),1,1,(-1),(-1),1,1]))],(.tup [(.row 0 0),(.int .i64 6),(.int .i64 0)]),(some ⟨3,1,(.ints .i64 [1,0])⟩)⟩
theorem ZwW:Zah Try.prog aw58.f aw58.args aw58.r aw58.fr:=Zab (n:=100000) (l:=[aw11,aw22,aw57]) follows Zad ⟨ZqK,⟨ZuH,⟨ZvL,trivial⟩⟩⟩ (by kernel_rfl)
def aw59:Fact:=⟨60,[(.int .i64 1)],(.row 0 0),(some ⟨3,1,(.ints .i64 [0,0,0,0,0,0,0,0,0,0,0,0,1])⟩)⟩
theorem ZuJ:Zah Try.prog aw59.f aw59.args aw59.r aw59.fr:=Zab (n:=100000) (l:=[]) follows Zad trivial (by kernel_rfl)
def aw60:Fact:=⟨91,[(.int .i64 1),(.int .i64 1),(.int .i64 3)],(.bool true),none⟩
theorem Zv3:Zah Try.prog aw60.f aw60.args aw60.r aw60.fr:=Zab (n:=100000) (l:=[]) follows Zad trivial (by kernel_rfl)
def aw61:Fact:=⟨73,[(.int .i64 1)],(.int .i64 0),none⟩
theorem Zxc:Zah Try.prog aw61.f aw61.args aw61.r aw61.fr:=Zab (n:=100000) (l:=[aw60,aw9]) follows Zad ⟨Zv3,⟨Zhe,trivial⟩⟩ (by kernel_rfl)
def aw62:Fact:=⟨91,[(.int .i64 0),(.int .i64 0),(.int .i64 15)],(.bool true),none⟩
theorem ZwI:Zah Try.prog aw62.f aw62.args aw62.r aw62.fr:=Zab (n:=100000) (l:=[]) follows Zad trivial (by kernel_rfl)
def aw63:Fact:=⟨111,[(.int .i64 0),(.eptr (.int .i64 0) 0),(.eptr (.int .i64 15) 0)],(.bool false),none⟩
theorem Zxh:Zah Try.prog aw63.f aw63.args aw63.r aw63.fr:=Zab (n:=100000) (l:=[aw62]) follows Zad ⟨ZwI,trivial⟩ (by kernel_rfl)
def aw64:Fact:=⟨91,[(.int .i64 1),(.int .i64 0),(.int .i64 15)],(.bool true),none⟩
theorem ZvN:Zah Try.prog aw64.f aw64.args aw64.r aw64.fr:=Zab (n:=100000) (l:=[]) follows Zad trivial (by kernel_rfl)
def aw65:Fact:=⟨111,[(.int .i64 1),(.eptr (.int .i64 0) 0),(.eptr (.int .i64 15) 0)],(.bool false),none⟩
theorem ZvK:Zah Try.prog aw65.f aw65.args aw65.r aw65.fr:=Zab (n:=100000) (l:=[aw64]) follows Zad ⟨ZvN,trivial⟩ (by kernel_rfl)
def aw66:Fact:=⟨123,[(.list (.ints .i64 [0,0,0,0,0,0,0,0,0,0,0,0,1])),(.fn 111 [(.eptr (.int .i64 0) 0),(.eptr (.int .i64 15) 0)])],(.int .i64 (-1)),none⟩
theorem Zvp:Zah Try.prog aw66.f aw66.args aw66.r aw66.fr:=Zab (n:=100000) (l:=[aw63,aw65]) follows Zad ⟨Zxh,⟨ZvK,trivial⟩⟩ (by kernel_rfl)
def aw67:Fact:=⟨110,[(.list (.ints .i64 [0,0,0,0,0,0,0,0,0,0,0,0,1])),(.fn 111 [(.eptr (.int .i64 0) 0),(.eptr (.int .i64 15) 0)])],(.bool false),none⟩
theorem Zu0:Zah Try.prog aw67.f aw67.args aw67.r aw67.fr:=Zab (n:=100000) (l:=[aw66]) follows Zad ⟨Zvp,trivial⟩ (by kernel_rfl)
def aw68:Fact:=⟨70,[(.list (.ints .i64 [0,0,0,0,0,0,0,0,0,0,0,0,1])),(.int .i64 0),(.int .i64 15)],(.int .i64 0),none⟩
theorem Zw9:Zah Try.prog aw68.f aw68.args aw68.r aw68.fr:=Zab (n:=100000) (l:=[aw67,aw9]) follows Zad ⟨Zu0,⟨Zhe,trivial⟩⟩ (by kernel_rfl)
def aw69:Fact:=⟨72,[(.list (.ints .i64 [0,0]))],(.int .i64 0),none⟩
theorem ZjB:Zah Try.prog aw69.f aw69.args aw69.r aw69.fr:=Zab (n:=100000) (l:=[]) follows Zad trivial (by kernel_rfl)
def aw70:Fact:=⟨74,[(.list (.ints .i64 [0,0,0,0,0,0,0,0,0,0,0,0,1])),(.int .i64 13)],(.int .i64 0),none⟩
theorem Zxj:Zah Try.prog aw70.f aw70.args aw70.r aw70.fr:=Zab (n:=100000) (l:=[aw12,aw68,aw69]) follows Zad ⟨Zma,⟨Zw9,⟨ZjB,trivial⟩⟩⟩ (by kernel_rfl)
def aw71:Fact:=⟨71,[(.int .i64 1),(.int .i64 2)],(.int .i64 2),none⟩
theorem ZaM:Zah Try.prog aw71.f aw71.args aw71.r aw71.fr:=Zab (n:=100000) (l:=[]) follows Zad trivial (by kernel_rfl)
def aw72:Fact:=⟨71,[(.int .i64 2),(.int .i64 2)],(.int .i64 4),none⟩
theorem ZaQ:Zah Try.prog aw72.f aw72.args aw72.r aw72.fr:=Zab (n:=100000) (l:=[]) follows Zad trivial (by kernel_rfl)
def aw73:Fact:=⟨71,[(.int .i64 4),(.int .i64 2)],(.int .i64 8),none⟩
theorem Za0:Zah Try.prog aw73.f aw73.args aw73.r aw73.fr:=Zab (n:=100000) (l:=[]) follows Zad trivial (by kernel_rfl)
def aw74:Fact:=⟨71,[(.int .i64 8),(.int .i64 2)],(.int .i64 3),none⟩
theorem Zbb:Zah Try.prog aw74.f aw74.args aw74.r aw74.fr:=Zab (n:=100000) (l:=[]) follows Zad trivial (by kernel_rfl)
def aw75:Fact:=⟨71,[(.int .i64 3),(.int .i64 2)],(.int .i64 6),none⟩
theorem Zbd:Zah Try.prog aw75.f aw75.args aw75.r aw75.fr:=Zab (n:=100000) (l:=[]) follows Zad trivial (by kernel_rfl)
def aw76:Fact:=⟨71,[(.int .i64 6),(.int .i64 2)],(.int .i64 12),none⟩
theorem Zbv:Zah Try.prog aw76.f aw76.args aw76.r aw76.fr:=Zab (n:=100000) (l:=[]) follows Zad trivial (by kernel_rfl)
def aw77:Fact:=⟨71,[(.int .i64 12),(.int .i64 2)],(.int .i64 11),none⟩
theorem ZbL:Zah Try.prog aw77.f aw77.args aw77.r aw77.fr:=Zab (n:=100000) (l:=[]) follows Zad trivial (by kernel_rfl)
def aw78:Fact:=⟨71,[(.int .i64 11),(.int .i64 2)],(.int .i64 5),none⟩
theorem Zci:Zah Try.prog aw78.f aw78.args aw78.r aw78.fr:=Zab (n:=100000) (l:=[]) follows Zad trivial (by kernel_rfl)
def aw79:Fact:=⟨71,[(.int .i64 5),(.int .i64 2)],(.int .i64 10),none⟩
theorem ZcH:Zah Try.prog aw79.f aw79.args aw79.r aw79.fr:=Zab (n:=100000) (l:=[]) follows Zad trivial (by kernel_rfl)
def aw80:Fact:=⟨71,[(.int .i64 10),(.int .i64 2)],(.int .i64 7),none⟩
theorem Zd4:Zah Try.prog aw80.f aw80.args aw80.r aw80.fr:=Zab (n:=100000) (l:=[]) follows Zad trivial (by kernel_rfl)
def aw81:Fact:=⟨71,[(.int .i64 7),(.int .i64 2)],(.int .i64 14),none⟩
theorem Zfe:Zah Try.prog aw81.f aw81.args aw81.r aw81.fr:=Zab (n:=100000) (l:=[]) follows Zad trivial (by kernel_rfl)
def aw82:Fact:=⟨71,[(.int .i64 14),(.int .i64 2)],(.int .i64 15),none⟩
theorem Zji:Zah Try.prog aw82.f aw82.args aw82.r aw82.fr:=Zab (n:=100000) (l:=[]) follows Zad trivial (by kernel_rfl)
def aw83:Fact:=⟨71,[(.int .i64 15),(.int .i64 2)],(.int .i64 13),none⟩
theorem Zl6:Zah Try.prog aw83.f aw83.args aw83.r aw83.fr:=Zab (n:=100000) (l:=[]) follows Zad trivial (by kernel_rfl)
def aw84:Fact:=⟨71,[(.int .i64 13),(.int .i64 2)],(.int .i64 9),none⟩
theorem Zwx:Zah Try.prog aw84.f aw84.args aw84.r aw84.fr:=Zab (n:=100000) (l:=[]) follows Zad trivial (by kernel_rfl)
def aw85:Fact:=⟨117,[(.int .i64 14)],(.int .i64 9),none⟩
theorem ZqC:Zah Try.prog aw85.f aw85.args aw85.r aw85.fr:=Zab (n:=100000) (l:=[aw71,aw72,aw73,aw74,aw75,aw76,aw77,aw78,aw79,aw80,aw81,aw82,aw83,aw84]) follows Zad ⟨ZaM,⟨ZaQ,⟨Za0,⟨Zbb,⟨Zbd,⟨Zbv,⟨ZbL,⟨Zci,⟨ZcH,⟨Zd4,⟨Zfe,⟨Zji,⟨Zl6,⟨Zwx,trivial⟩⟩⟩⟩⟩⟩⟩⟩⟩⟩⟩⟩⟩⟩ (by kernel_rfl)
def aw86:Fact:=⟨71,[(.int .i64 0),(.int .i64 9)],(.int .i64 0),none⟩
theorem ZlG:Zah Try.prog aw86.f aw86.args aw86.r aw86.fr:=Zab (n:=100000) (l:=[]) follows Zad trivial (by kernel_rfl)
def aw87:Fact:=⟨117,[(.int .i64 13)],(.int .i64 13),none⟩
theorem ZvV:Zah Try.prog aw87.f aw87.args aw87.r aw87.fr:=Zab (n:=100000) (l:=[aw71,aw72,aw73,aw74,aw75,aw76,aw77,aw78,aw79,aw80,aw81,aw82,aw83]) follows Zad ⟨ZaM,⟨ZaQ,⟨Za0,⟨Zbb,⟨Zbd,⟨Zbv,⟨ZbL,⟨Zci,⟨ZcH,⟨Zd4,⟨Zfe,⟨Zji,⟨Zl6,trivial⟩⟩⟩⟩⟩⟩⟩⟩⟩⟩⟩⟩⟩ (by kernel_rfl)
def aw88:Fact:=⟨71,[(.int .i64 0),(.int .i64 13)],(.int .i64 0),none⟩
theorem Zpq:Zah Try.prog aw88.f aw88.args aw88.r aw88.fr:=Zab (n:=100000) (l:=[]) follows Zad trivial (by kernel_rfl)
def aw89:Fact:=⟨117,[(.int .i64 12)],(.int .i64 15),none⟩
theorem Zo7:Zah Try.prog aw89.f aw89.args aw89.r aw89.fr:=Zab (n:=100000) (l:=[aw71,aw72,aw73,aw74,aw75,aw76,aw77,aw78,aw79,aw80,aw81,aw82]) follows Zad ⟨ZaM,⟨ZaQ,⟨Za0,⟨Zbb,⟨Zbd,⟨Zbv,⟨ZbL,⟨Zci,⟨ZcH,⟨Zd4,⟨Zfe,⟨Zji,trivial⟩⟩⟩⟩⟩⟩⟩⟩⟩⟩⟩⟩ (by kernel_rfl)
def aw90:Fact:=⟨71,[(.int .i64 0),(.int .i64 15)],(.int .i64 0),none⟩
theorem ZqF:Zah Try.prog aw90.f aw90.args aw90.r aw90.fr:=Zab (n:=100000) (l:=[]) follows Zad trivial (by kernel_rfl)
def aw91:Fact:=⟨117,[(.int .i64 11)],(.int .i64 14),none⟩
theorem ZwY:Zah Try.prog aw91.f aw91.args aw91.r aw91.fr:=Zab (n:=100000) (l:=[aw71,aw72,aw73,aw74,aw75,aw76,aw77,aw78,aw79,aw80,aw81]) follows Zad ⟨ZaM,⟨ZaQ,⟨Za0,⟨Zbb,⟨Zbd,⟨Zbv,⟨ZbL,⟨Zci,⟨ZcH,⟨Zd4,⟨Zfe,trivial⟩⟩⟩⟩⟩⟩⟩⟩⟩⟩⟩ (by kernel_rfl)
def aw92:Fact:=⟨71,[(.int .i64 0),(.int .i64 14)],(.int .i64 0),none⟩
theorem ZlK:Zah Try.prog aw92.f aw92.args aw92.r aw92.fr:=Zab (n:=100000) (l:=[]) follows Zad trivial (by kernel_rfl)
def aw93:Fact:=⟨117,[(.int .i64 10)],(.int .i64 7),none⟩
theorem Zpk:Zah Try.prog aw93.f aw93.args aw93.r aw93.fr:=Zab (n:=100000) (l:=[aw71,aw72,aw73,aw74,aw75,aw76,aw77,aw78,aw79,aw80]) follows Zad ⟨ZaM,⟨ZaQ,⟨Za0,⟨Zbb,⟨Zbd,⟨Zbv,⟨ZbL,⟨Zci,⟨ZcH,⟨Zd4,trivial⟩⟩⟩⟩⟩⟩⟩⟩⟩⟩ (by kernel_rfl)
def aw94:Fact:=⟨71,[(.int .i64 0),(.int .i64 7)],(.int .i64 0),none⟩
theorem Zpr:Zah Try.prog aw94.f aw94.args aw94.r aw94.fr:=Zab (n:=100000) (l:=[]) follows Zad trivial (by kernel_rfl)
def aw95:Fact:=⟨117,[(.int .i64 9)],(.int .i64 10),none⟩
theorem ZuG:Zah Try.prog aw95.f aw95.args aw95.r aw95.fr:=Zab (n:=100000) (l:=[aw71,aw72,aw73,aw74,aw75,aw76,aw77,aw78,aw79]) follows Zad ⟨ZaM,⟨ZaQ,⟨Za0,⟨Zbb,⟨Zbd,⟨Zbv,⟨ZbL,⟨Zci,⟨ZcH,trivial⟩⟩⟩⟩⟩⟩⟩⟩⟩ (by kernel_rfl)
def aw96:Fact:=⟨71,[(.int .i64 0),(.int .i64 10)],(.int .i64 0),none⟩
theorem ZoC:Zah Try.prog aw96.f aw96.args aw96.r aw96.fr:=Zab (n:=100000) (l:=[]) follows Zad trivial (by kernel_rfl)
def aw97:Fact:=⟨117,[(.int .i64 8)],(.int .i64 5),none⟩
theorem ZoD:Zah Try.prog aw97.f aw97.args aw97.r aw97.fr:=Zab (n:=100000) (l:=[aw71,aw72,aw73,aw74,aw75,aw76,aw77,aw78]) follows Zad ⟨ZaM,⟨ZaQ,⟨Za0,⟨Zbb,⟨Zbd,⟨Zbv,⟨ZbL,⟨Zci,trivial⟩⟩⟩⟩⟩⟩⟩⟩ (by kernel_rfl)
def aw98:Fact:=⟨71,[(.int .i64 0),(.int .i64 5)],(.int .i64 0),none⟩
theorem Zqk:Zah Try.prog aw98.f aw98.args aw98.r aw98.fr:=Zab (n:=100000) (l:=[]) follows Zad trivial (by kernel_rfl)
def aw99:Fact:=⟨117,[(.int .i64 7)],(.int .i64 11),none⟩
theorem Zv9:Zah Try.prog aw99.f aw99.args aw99.r aw99.fr:=Zab (n:=100000) (l:=[aw71,aw72,aw73,aw74,aw75,aw76,aw77]) follows Zad ⟨ZaM,⟨ZaQ,⟨Za0,⟨Zbb,⟨Zbd,⟨Zbv,⟨ZbL,trivial⟩⟩⟩⟩⟩⟩⟩ (by kernel_rfl)
def aw100:Fact:=⟨71,[(.int .i64 0),(.int .i64 11)],(.int .i64 0),none⟩
theorem ZmU:Zah Try.prog aw100.f aw100.args aw100.r aw100.fr:=Zab (n:=100000) (l:=[]) follows Zad trivial (by kernel_rfl)
def aw101:Fact:=⟨117,[(.int .i64 6)],(.int .i64 12),none⟩
theorem Znf:Zah Try.prog aw101.f aw101.args aw101.r aw101.fr:=Zab (n:=100000) (l:=[aw71,aw72,aw73,aw74,aw75,aw76]) follows Zad ⟨ZaM,⟨ZaQ,⟨Za0,⟨Zbb,⟨Zbd,⟨Zbv,trivial⟩⟩⟩⟩⟩⟩ (by kernel_rfl)
def aw102:Fact:=⟨71,[(.int .i64 0),(.int .i64 12)],(.int .i64 0),none⟩
theorem ZmS:Zah Try.prog aw102.f aw102.args aw102.r aw102.fr:=Zab (n:=100000) (l:=[]) follows Zad trivial (by kernel_rfl)
def aw103:Fact:=⟨117,[(.int .i64 5)],(.int .i64 6),none⟩
theorem Zrg:Zah Try.prog aw103.f aw103.args aw103.r aw103.fr:=Zab (n:=100000) (l:=[aw71,aw72,aw73,aw74,aw75]) follows Zad ⟨ZaM,⟨ZaQ,⟨Za0,⟨Zbb,⟨Zbd,trivial⟩⟩⟩⟩⟩ (by kernel_rfl)
def aw104:Fact:=⟨71,[(.int .i64 0),(.int .i64 6)],(.int .i64 0),none⟩
theorem Znj:Zah Try.prog aw104.f aw104.args aw104.r aw104.fr:=Zab (n:=100000) (l:=[]) follows Zad trivial (by kernel_rfl)
def aw105:Fact:=⟨117,[(.int .i64 4)],(.int .i64 3),none⟩
theorem ZmC:Zah Try.prog aw105.f aw105.args aw105.r aw105.fr:=Zab (n:=100000) (l:=[aw71,aw72,aw73,aw74]) follows Zad ⟨ZaM,⟨ZaQ,⟨Za0,⟨Zbb,trivial⟩⟩⟩⟩ (by kernel_rfl)
def aw106:Fact:=⟨71,[(.int .i64 0),(.int .i64 3)],(.int .i64 0),none⟩
theorem Ztn:Zah Try.prog aw106.f aw106.args aw106.r aw106.fr:=Zab (n:=100000) (l:=[]) follows Zad trivial (by kernel_rfl)
def aw107:Fact:=⟨117,[(.int .i64 3)],(.int .i64 8),none⟩
theorem ZqY:Zah Try.prog aw107.f aw107.args aw107.r aw107.fr:=Zab (n:=100000) (l:=[aw71,aw72,aw73]) follows Zad ⟨ZaM,⟨ZaQ,⟨Za0,trivial⟩⟩⟩ (by kernel_rfl)
def aw108:Fact:=⟨71,[(.int .i64 0),(.int .i64 8)],(.int .i64 0),none⟩
theorem Zm3:Zah Try.prog aw108.f aw108.args aw108.r aw108.fr:=Zab (n:=100000) (l:=[]) follows Zad trivial (by kernel_rfl)
def aw109:Fact:=⟨117,[(.int .i64 2)],(.int .i64 4),none⟩
theorem Zjn:Zah Try.prog aw109.f aw109.args aw109.r aw109.fr:=Zab (n:=100000) (l:=[aw71,aw72]) follows Zad ⟨ZaM,⟨ZaQ,trivial⟩⟩ (by kernel_rfl)
def aw110:Fact:=⟨71,[(.int .i64 1),(.int .i64 4)],(.int .i64 4),none⟩
theorem Zmq:Zah Try.prog aw110.f aw110.args aw110.r aw110.fr:=Zab (n:=100000) (l:=[]) follows Zad trivial (by kernel_rfl)
def aw111:Fact:=⟨117,[(.int .i64 1)],(.int .i64 2),none⟩
theorem ZmZ:Zah Try.prog aw111.f aw111.args aw111.r aw111.fr:=Zab (n:=100000) (l:=[aw71]) follows Zad ⟨ZaM,trivial⟩ (by kernel_rfl)
def aw112:Fact:=⟨71,[(.int .i64 0),(.int .i64 2)],(.int .i64 0),none⟩
theorem Zna:Zah Try.prog aw112.f aw112.args aw112.r aw112.fr:=Zab (n:=100000) (l:=[]) follows Zad trivial (by kernel_rfl)
def aw113:Fact:=⟨117,[(.int .i64 0)],(.int .i64 1),none⟩
theorem Zjd:Zah Try.prog aw113.f aw113.args aw113.r aw113.fr:=Zab (n:=100000) (l:=[]) follows Zad trivial (by kernel_rfl)
def aw114:Fact:=⟨71,[(.int .i64 0),(.int .i64 1)],(.int .i64 0),none⟩
theorem Zmt:Zah Try.prog aw114.f aw114.args aw114.r aw114.fr:=Zab (n:=100000) (l:=[]) follows Zad trivial (by kernel_rfl)
def aw115:Fact:=⟨112,[(.agg (.ints .i64 [0,0,0,0,0,0,0,0,0,0,0,0,1,0,0])),(.int .i64 1)],(.int .i64 4),none⟩
theorem Ztj:Zah Try.prog aw115.f aw115.args aw115.r aw115.fr:=Zab (n:=100000) (l:=[aw85,aw86,aw87,aw88,aw89,aw90,aw91,aw92,aw93,aw94,aw95,aw96,aw97,aw98,aw99,aw100,aw101,aw102,aw103,aw104,aw105,aw106,aw107,aw108,aw109,aw110,aw111,aw112,aw113,aw114]) follows Zad ⟨ZqC,⟨ZlG,⟨ZvV,⟨Zpq,⟨Zo7,⟨ZqF,⟨ZwY,⟨ZlK,⟨Zpk,⟨Zpr,⟨ZuG,⟨ZoC,⟨ZoD,⟨Zqk,⟨Zv9,⟨ZmU,⟨Znf,⟨ZmS,⟨Zrg,⟨Znj,⟨ZmC,⟨Ztn,⟨ZqY,⟨Zm3,⟨Zjn,⟨Zmq,⟨ZmZ,⟨Zna,⟨Zjd,⟨Zmt,trivial⟩⟩⟩⟩⟩⟩⟩⟩⟩⟩⟩⟩⟩⟩⟩⟩⟩⟩⟩⟩⟩⟩⟩⟩⟩⟩⟩⟩⟩⟩ (by kernel_rfl)
def aw116:Fact:=⟨117,[(.int .i64 28)],(.int .i64 13),none⟩
theorem Zsa:Zah Try.prog aw116.f aw116.args aw116.r aw116.fr:=Zab (n:=100000) (l:=[aw71,aw72,aw73,aw74,aw75,aw76,aw77,aw78,aw79,aw80,aw81,aw82,aw83]) follows Zad ⟨ZaM,⟨ZaQ,⟨Za0,⟨Zbb,⟨Zbd,⟨Zbv,⟨ZbL,⟨Zci,⟨ZcH,⟨Zd4,⟨Zfe,⟨Zji,⟨Zl6,trivial⟩⟩⟩⟩⟩⟩⟩⟩⟩⟩⟩⟩⟩ (by kernel_rfl)
def aw117:Fact:=⟨117,[(.int .i64 26)],(.int .i64 14),none⟩
theorem ZsB:Zah Try.prog aw117.f aw117.args aw117.r aw117.fr:=Zab (n:=100000) (l:=[aw71,aw72,aw73,aw74,aw75,aw76,aw77,aw78,aw79,aw80,aw81]) follows Zad ⟨ZaM,⟨ZaQ,⟨Za0,⟨Zbb,⟨Zbd,⟨Zbv,⟨ZbL,⟨Zci,⟨ZcH,⟨Zd4,⟨Zfe,trivial⟩⟩⟩⟩⟩⟩⟩⟩⟩⟩⟩ (by kernel_rfl)
def aw118:Fact:=⟨117,[(.int .i64 24)],(.int .i64 10),none⟩
theorem Zsx:Zah Try.prog aw118.f aw118.args aw118.r aw118.fr:=Zab (n:=100000) (l:=[aw71,aw72,aw73,aw74,aw75,aw76,aw77,aw78,aw79]) follows Zad ⟨ZaM,⟨ZaQ,⟨Za0,⟨Zbb,⟨Zbd,⟨Zbv,⟨ZbL,⟨Zci,⟨ZcH,trivial⟩⟩⟩⟩⟩⟩⟩⟩⟩ (by kernel_rfl)
def aw119:Fact:=⟨117,[(.int .i64 22)],(.int .i64 11),none⟩
theorem Ztl:Zah Try.prog aw119.f aw119.args aw119.r aw119.fr:=Zab (n:=100000) (l:=[aw71,aw72,aw73,aw74,aw75,aw76,aw77]) follows Zad ⟨ZaM,⟨ZaQ,⟨Za0,⟨Zbb,⟨Zbd,⟨Zbv,⟨ZbL,trivial⟩⟩⟩⟩⟩⟩⟩ (by kernel_rfl)
def aw120:Fact:=⟨117,[(.int .i64 20)],(.int .i64 6),none⟩
theorem Zq3:Zah Try.prog aw120.f aw120.args aw120.r aw120.fr:=Zab (n:=100000) (l:=[aw71,aw72,aw73,aw74,aw75]) follows Zad ⟨ZaM,⟨ZaQ,⟨Za0,⟨Zbb,⟨Zbd,trivial⟩⟩⟩⟩⟩ (by kernel_rfl)
def aw121:Fact:=⟨117,[(.int .i64 18)],(.int .i64 8),none⟩
theorem Zq1:Zah Try.prog aw121.f aw121.args aw121.r aw121.fr:=Zab (n:=100000) (l:=[aw71,aw72,aw73]) follows Zad ⟨ZaM,⟨ZaQ,⟨Za0,trivial⟩⟩⟩ (by kernel_rfl)
def aw122:Fact:=⟨117,[(.int .i64 16)],(.int .i64 2),none⟩
theorem ZsY:Zah Try.prog aw122.f aw122.args aw122.r aw122.fr:=Zab (n:=100000) (l:=[aw71]) follows Zad ⟨ZaM,trivial⟩ (by kernel_rfl)
def aw123:Fact:=⟨71,[(.int .i64 1),(.int .i64 3)],(.int .i64 3),none⟩
theorem ZsL:Zah Try.prog aw123.f aw123.args aw123.r aw123.fr:=Zab (n:=100000) (l:=[]) follows Zad trivial (by kernel_rfl)
def aw124:Fact:=⟨71,[(.int .i64 0),(.int .i64 4)],(.int .i64 0),none⟩
theorem Zsj:Zah Try.prog aw124.f aw124.args aw124.r aw124.fr:=Zab (n:=100000) (l:=[]) follows Zad trivial (by kernel_rfl)
def aw125:Fact:=⟨112,[(.agg (.ints .i64 [0,0,0,0,0,0,0,0,0,0,0,0,1,0,0])),(.int .i64 2)],(.int .i64 3),none⟩
theorem Zr8:Zah Try.prog aw125.f aw125.args aw125.r aw125.fr:=Zab (n:=100000) (l:=[aw116,aw88,aw117,aw92,aw118,aw96,aw119,aw100,aw120,aw104,aw121,aw108,aw122,aw112,aw85,aw86,aw89,aw90,aw93,aw94,aw97,aw98,aw101,aw102,aw105,aw123,aw109,aw124,aw113,aw114]) follows Zad ⟨Zsa,⟨Zpq,⟨ZsB,⟨ZlK,⟨Zsx,⟨ZoC,⟨Ztl,⟨ZmU,⟨Zq3,⟨Znj,⟨Zq1,⟨Zm3,⟨ZsY,⟨Zna,⟨ZqC,⟨ZlG,⟨Zo7,⟨ZqF,⟨Zpk,⟨Zpr,⟨ZoD,⟨Zqk,⟨Znf,⟨ZmS,⟨ZmC,⟨ZsL,⟨Zjn,⟨Zsj,⟨Zjd,⟨Zmt,trivial⟩⟩⟩⟩⟩⟩⟩⟩⟩⟩⟩⟩⟩⟩⟩⟩⟩⟩⟩⟩⟩⟩⟩⟩⟩⟩⟩⟩⟩⟩ (by kernel_rfl)
def aw126:Fact:=⟨75,[(.agg (.ints .i64 [0,0,0,0,0,0,0,0,0,0,0,0,1,0,0])),(.int .i64 1)],(.row 0 0),(some ⟨3,1,(.ints .i64 [4,3])⟩)⟩
theorem Zto:Zah Try.prog aw126.f aw126.args aw126.r aw126.fr:=Zab (n:=100000) (l:=[aw115,aw125]) follows Zad ⟨Ztj,⟨Zr8,trivial⟩⟩ (by kernel_rfl)
def aw127:Fact:=⟨71,[(.int .i64 2),(.int .i64 1)],(.int .i64 2),none⟩
theorem Zs1:Zah Try.prog aw127.f aw127.args aw127.r aw127.fr:=Zab (n:=100000) (l:=[]) follows Zad trivial (by kernel_rfl)
def aw128:Fact:=⟨71,[(.int .i64 2),(.int .i64 3)],(.int .i64 6),none⟩
theorem ZsW:Zah Try.prog aw128.f aw128.args aw128.r aw128.fr:=Zab (n:=100000) (l:=[]) follows Zad trivial (by kernel_rfl)
def aw129:Fact:=⟨71,[(.int .i64 2),(.int .i64 4)],(.int .i64 8),none⟩
theorem Zmd:Zah Try.prog aw129.f aw129.args aw129.r aw129.fr:=Zab (n:=100000) (l:=[]) follows Zad trivial (by kernel_rfl)
def aw130:Fact:=⟨71,[(.int .i64 2),(.int .i64 5)],(.int .i64 10),none⟩
theorem ZsP:Zah Try.prog aw130.f aw130.args aw130.r aw130.fr:=Zab (n:=100000) (l:=[]) follows Zad trivial (by kernel_rfl)
def aw131:Fact:=⟨71,[(.int .i64 2),(.int .i64 6)],(.int .i64 12),none⟩
theorem Zse:Zah Try.prog aw131.f aw131.args aw131.r aw131.fr:=Zab (n:=100000) (l:=[]) follows Zad trivial (by kernel_rfl)
def aw132:Fact:=⟨71,[(.int .i64 2),(.int .i64 7)],(.int .i64 14),none⟩
theorem Ztd:Zah Try.prog aw132.f aw132.args aw132.r aw132.fr:=Zab (n:=100000) (l:=[]) follows Zad trivial (by kernel_rfl)
def aw133:Fact:=⟨71,[(.int .i64 2),(.int .i64 8)],(.int .i64 3),none⟩
theorem ZrF:Zah Try.prog aw133.f aw133.args aw133.r aw133.fr:=Zab (n:=100000) (l:=[]) follows Zad trivial (by kernel_rfl)
def aw134:Fact:=⟨71,[(.int .i64 2),(.int .i64 9)],(.int .i64 1),none⟩
theorem Zmf:Zah Try.prog aw134.f aw134.args aw134.r aw134.fr:=Zab (n:=100000) (l:=[]) follows Zad trivial (by kernel_rfl)
def aw135:Fact:=⟨128,[(.int .i64 2)],(.int .i64 9),none⟩
theorem Zra:Zah Try.prog aw135.f aw135.args aw135.r aw135.fr:=Zab (n:=100000) (l:=[aw127,aw72,aw128,aw129,aw130,aw131,aw132,aw133,aw134]) follows Zad ⟨Zs1,⟨ZaQ,⟨ZsW,⟨Zmd,⟨ZsP,⟨Zse,⟨Ztd,⟨ZrF,⟨Zmf,trivial⟩⟩⟩⟩⟩⟩⟩⟩⟩ (by kernel_rfl)
def aw136:Fact:=⟨71,[(.int .i64 1),(.int .i64 9)],(.int .i64 9),none⟩
theorem Zro:Zah Try.prog aw136.f aw136.args aw136.r aw136.fr:=Zab (n:=100000) (l:=[]) follows Zad trivial (by kernel_rfl)
def aw137:Fact:=⟨71,[(.int .i64 4),(.int .i64 9)],(.int .i64 2),none⟩
theorem Zsc:Zah Try.prog aw137.f aw137.args aw137.r aw137.fr:=Zab (n:=100000) (l:=[]) follows Zad trivial (by kernel_rfl)
def aw138:Fact:=⟨71,[(.int .i64 9),(.int .i64 4)],(.int .i64 2),none⟩
theorem Zr7:Zah Try.prog aw138.f aw138.args aw138.r aw138.fr:=Zab (n:=100000) (l:=[]) follows Zad trivial (by kernel_rfl)
def aw139:Fact:=⟨71,[(.int .i64 3),(.int .i64 1)],(.int .i64 3),none⟩
theorem ZsG:Zah Try.prog aw139.f aw139.args aw139.r aw139.fr:=Zab (n:=100000) (l:=[]) follows Zad trivial (by kernel_rfl)
def aw140:Fact:=⟨71,[(.int .i64 3),(.int .i64 3)],(.int .i64 5),none⟩
theorem ZqX:Zah Try.prog aw140.f aw140.args aw140.r aw140.fr:=Zab (n:=100000) (l:=[]) follows Zad trivial (by kernel_rfl)
def aw141:Fact:=⟨71,[(.int .i64 3),(.int .i64 4)],(.int .i64 12),none⟩
theorem Zq7:Zah Try.prog aw141.f aw141.args aw141.r aw141.fr:=Zab (n:=100000) (l:=[]) follows Zad trivial (by kernel_rfl)
def aw142:Fact:=⟨71,[(.int .i64 3),(.int .i64 5)],(.int .i64 15),none⟩
theorem Zrx:Zah Try.prog aw142.f aw142.args aw142.r aw142.fr:=Zab (n:=100000) (l:=[]) follows Zad trivial (by kernel_rfl)
def aw143:Fact:=⟨71,[(.int .i64 3),(.int .i64 6)],(.int .i64 10),none⟩
theorem ZrN:Zah Try.prog aw143.f aw143.args aw143.r aw143.fr:=Zab (n:=100000) (l:=[]) follows Zad trivial (by kernel_rfl)
def aw144:Fact:=⟨71,[(.int .i64 3),(.int .i64 7)],(.int .i64 9),none⟩
theorem ZrU:Zah Try.prog aw144.f aw144.args aw144.r aw144.fr:=Zab (n:=100000) (l:=[]) follows Zad trivial (by kernel_rfl)
def aw145:Fact:=⟨71,[(.int .i64 3),(.int .i64 8)],(.int .i64 11),none⟩
theorem Zs9:Zah Try.prog aw145.f aw145.args aw145.r aw145.fr:=Zab (n:=100000) (l:=[]) follows Zad trivial (by kernel_rfl)
def aw146:Fact:=⟨71,[(.int .i64 3),(.int .i64 9)],(.int .i64 8),none⟩
theorem ZsS:Zah Try.prog aw146.f aw146.args aw146.r aw146.fr:=Zab (n:=100000) (l:=[]) follows Zad trivial (by kernel_rfl)
def aw147:Fact:=⟨71,[(.int .i64 3),(.int .i64 10)],(.int .i64 13),none⟩
theorem Zte:Zah Try.prog aw147.f aw147.args aw147.r aw147.fr:=Zab (n:=100000) (l:=[]) follows Zad trivial (by kernel_rfl)
def aw148:Fact:=⟨71,[(.int .i64 3),(.int .i64 11)],(.int .i64 14),none⟩
theorem Zth:Zah Try.prog aw148.f aw148.args aw148.r aw148.fr:=Zab (n:=100000) (l:=[]) follows Zad trivial (by kernel_rfl)
def aw149:Fact:=⟨71,[(.int .i64 3),(.int .i64 12)],(.int .i64 7),none⟩
theorem ZrX:Zah Try.prog aw149.f aw149.args aw149.r aw149.fr:=Zab (n:=100000) (l:=[]) follows Zad trivial (by kernel_rfl)
def aw150:Fact:=⟨71,[(.int .i64 3),(.int .i64 13)],(.int .i64 4),none⟩
theorem Zri:Zah Try.prog aw150.f aw150.args aw150.r aw150.fr:=Zab (n:=100000) (l:=[]) follows Zad trivial (by kernel_rfl)
def aw151:Fact:=⟨71,[(.int .i64 3),(.int .i64 14)],(.int .i64 1),none⟩
theorem Zms:Zah Try.prog aw151.f aw151.args aw151.r aw151.fr:=Zab (n:=100000) (l:=[]) follows Zad trivial (by kernel_rfl)
def aw152:Fact:=⟨128,[(.int .i64 3)],(.int .i64 14),none⟩
theorem ZsC:Zah Try.prog aw152.f aw152.args aw152.r aw152.fr:=Zab (n:=100000) (l:=[aw139,aw75,aw140,aw141,aw142,aw143,aw144,aw145,aw146,aw147,aw148,aw149,aw150,aw151]) follows Zad ⟨ZsG,⟨Zbd,⟨ZqX,⟨Zq7,⟨Zrx,⟨ZrN,⟨ZrU,⟨Zs9,⟨ZsS,⟨Zte,⟨Zth,⟨ZrX,⟨Zri,⟨Zms,trivial⟩⟩⟩⟩⟩⟩⟩⟩⟩⟩⟩⟩⟩⟩ (by kernel_rfl)
def aw153:Fact:=⟨71,[(.int .i64 11),(.int .i64 14)],(.int .i64 8),none⟩
theorem Zsh:Zah Try.prog aw153.f aw153.args aw153.r aw153.fr:=Zab (n:=100000) (l:=[]) follows Zad trivial (by kernel_rfl)
def aw154:Fact:=⟨71,[(.int .i64 8),(.int .i64 9)],(.int .i64 4),none⟩
theorem Zru:Zah Try.prog aw154.f aw154.args aw154.r aw154.fr:=Zab (n:=100000) (l:=[]) follows Zad trivial (by kernel_rfl)
def aw155:Fact:=⟨92,[(.agg (.ints .i64 [0,0,0,0,0,0,0,0,0,0,0,0,1,0,0])),(.int .i64 1),(.list (.ints .i64 [13,14]))],(.tup [(.agg (.ints .i64 [0,0,0,0,0,0,0,0,0,0,0,0,1,6,8])),(.bool true)]),none⟩
theorem Zq5:Zah Try.prog aw155.f aw155.args aw155.r aw155.fr:=Zab (n:=100000) (l:=[aw126,aw111,aw113,aw109,aw135,aw134,aw136,aw137,aw110,aw138,aw129,aw152,aw92,aw151,aw153,aw86,aw154]) follows Zad ⟨Zto,⟨ZmZ,⟨Zjd,⟨Zjn,⟨Zra,⟨Zmf,⟨Zro,⟨Zsc,⟨Zmq,⟨Zr7,⟨Zmd,⟨ZsC,⟨ZlK,⟨Zms,⟨Zsh,⟨ZlG,⟨Zru,trivial⟩⟩⟩⟩⟩⟩⟩⟩⟩⟩⟩⟩⟩⟩⟩⟩⟩ (by kernel_rfl)
def aw156:Fact:=⟨76,[(.int .i64 1),(.list (.ints .i64 [0,0,0,0,0,0,0,0,0,0,0,0,1]))],(.agg (.ints .i64 [0,0,0,0,0,0,0,0,0,0,0,0,1,6,8])),none⟩
theorem Zsb:Zah Try.prog aw156.f aw156.args aw156.r aw156.fr:=Zab (n:=100000) (l:=[aw155]) follows Zad ⟨Zq5,trivial⟩ (by kernel_rfl)
def aw157:Fact:=⟨62,[],(.agg (.gen [(.int .i64 3),(.list (.gen [(.list (.ints .i64 [0,1])),(.list (.ints .i64 [1,2]))]))])),none⟩
theorem Zry:Zah Try.prog aw157.f aw157.args aw157.r aw157.fr:=Zab (n:=100000) (l:=[]) follows Zad trivial (by kernel_rfl)
def aw158:Fact:=⟨91,[(.int .i64 3),(.int .i64 1),(.int .i64 24)],(.bool true),none⟩
theorem Zs3:Zah Try.prog aw158.f aw158.args aw158.r aw158.fr:=Zab (n:=100000) (l:=[]) follows Zad trivial (by kernel_rfl)
def aw159:Fact:=⟨91,[(.int .i64 0),(.int .i64 0),(.int .i64 2)],(.bool true),none⟩
theorem Zrz:Zah Try.prog aw159.f aw159.args aw159.r aw159.fr:=Zab (n:=100000) (l:=[]) follows Zad trivial (by kernel_rfl)
def aw160:Fact:=⟨85,[(.bool true),(.int .i64 6)],(.int .i64 0),none⟩
theorem ZsM:Zah Try.prog aw160.f aw160.args aw160.r aw160.fr:=Zab (n:=100000) (l:=[]) follows Zad trivial (by kernel_rfl)
def aw161:Fact:=⟨85,[(.bool true),(.int .i64 9)],(.int .i64 0),none⟩
theorem Zrb:Zah Try.prog aw161.f aw161.args aw161.r aw161.fr:=Zab (n:=100000) (l:=[]) follows Zad trivial (by kernel_rfl)
def aw162:Fact:=⟨91,[(.int .i64 1),(.int .i64 0),(.int .i64 2)],(.bool true),none⟩
theorem Ztk:Zah Try.prog aw162.f aw162.args aw162.r aw162.fr:=Zab (n:=100000) (l:=[]) follows Zad trivial (by kernel_rfl)
def aw163:Fact:=⟨91,[(.int .i64 2),(.int .i64 0),(.int .i64 2)],(.bool true),none⟩
theorem ZsU:Zah Try.prog aw163.f aw163.args aw163.r aw163.fr:=Zab (n:=100000) (l:=[]) follows Zad trivial (by kernel_rfl)
def aw164:Fact:=⟨132,[(.agg (.gen [(.int .i64 3),(.list (.gen [(.list (.ints .i64 [0,1])),(.list (.ints .i64 [1,2]))]))]))],(.tup [(.int .i64 0),(.int .i64 0)]),none⟩
theorem ZsJ:Zah Try.prog aw164.f aw164.args aw164.r aw164.fr:=Zab (n:=100000) (l:=[aw158,aw9,aw13,aw69,aw159,aw160,aw161,aw162,aw163]) follows Zad ⟨Zs3,⟨Zhe,⟨Zqt,⟨ZjB,⟨Zrz,⟨ZsM,⟨Zrb,⟨Ztk,⟨ZsU,trivial⟩⟩⟩⟩⟩⟩⟩⟩⟩ (by kernel_rfl)
def aw165:Fact:=⟨120,[(.agg (.gen [(.int .i64 3),(.list (.gen [(.list (.ints .i64 [0,1])),(.list (.ints .i64 [1,2]))]))]))],(.int .i64 0),none⟩
theorem Zsm:Zah Try.prog aw165.f aw165.args aw165.r aw165.fr:=Zab (n:=100000) (l:=[aw164]) follows Zad ⟨ZsJ,trivial⟩ (by kernel_rfl)
def aw166:Fact:=⟨91,[(.int .i64 1),(.int .i64 0),(.int .i64 1)],(.bool true),none⟩
theorem ZsQ:Zah Try.prog aw166.f aw166.args aw166.r aw166.fr:=Zab (n:=100000) (l:=[]) follows Zad trivial (by kernel_rfl)
def aw167:Fact:=⟨111,[(.int .i64 1),(.eptr (.int .i64 0) 0),(.eptr (.int .i64 1) 0)],(.bool false),none⟩
theorem Zsi:Zah Try.prog aw167.f aw167.args aw167.r aw167.fr:=Zab (n:=100000) (l:=[aw166]) follows Zad ⟨ZsQ,trivial⟩ (by kernel_rfl)
def aw168:Fact:=⟨91,[(.int .i64 0),(.int .i64 0),(.int .i64 1)],(.bool true),none⟩
theorem Zrq:Zah Try.prog aw168.f aw168.args aw168.r aw168.fr:=Zab (n:=100000) (l:=[]) follows Zad trivial (by kernel_rfl)
def aw169:Fact:=⟨111,[(.int .i64 0),(.eptr (.int .i64 0) 0),(.eptr (.int .i64 1) 0)],(.bool false),none⟩
theorem Zsz:Zah Try.prog aw169.f aw169.args aw169.r aw169.fr:=Zab (n:=100000) (l:=[aw168]) follows Zad ⟨Zrq,trivial⟩ (by kernel_rfl)
def aw170:Fact:=⟨123,[(.list (.ints .i64 [1,0,0])),(.fn 111 [(.eptr (.int .i64 0) 0),(.eptr (.int .i64 1) 0)])],(.int .i64 (-1)),none⟩
theorem ZsX:Zah Try.prog aw170.f aw170.args aw170.r aw170.fr:=Zab (n:=100000) (l:=[aw167,aw169]) follows Zad ⟨Zsi,⟨Zsz,trivial⟩⟩ (by kernel_rfl)
def aw171:Fact:=⟨110,[(.list (.ints .i64 [1,0,0])),(.fn 111 [(.eptr (.int .i64 0) 0),(.eptr (.int .i64 1) 0)])],(.bool false),none⟩
theorem Zs8:Zah Try.prog aw171.f aw171.args aw171.r aw171.fr:=Zab (n:=100000) (l:=[aw170]) follows Zad ⟨ZsX,trivial⟩ (by kernel_rfl)
def aw172:Fact:=⟨70,[(.list (.ints .i64 [1,0,0])),(.int .i64 0),(.int .i64 1)],(.int .i64 0),none⟩
theorem ZqS:Zah Try.prog aw172.f aw172.args aw172.r aw172.fr:=Zab (n:=100000) (l:=[aw171,aw9]) follows Zad ⟨Zs8,⟨Zhe,trivial⟩⟩ (by kernel_rfl)
def aw173:Fact:=⟨103,[(.agg (.gen [(.int .i64 3),(.list (.gen [(.list (.ints .i64 [0,1])),(.list (.ints .i64 [1,2]))]))])),(.list (.ints .i64 [1,0,0]))],(.int .i64 0),none⟩
theorem ZrE:Zah Try.prog aw173.f aw173.args aw173.r aw173.fr:=Zab (n:=100000) (l:=[aw165,aw12,aw172,aw21]) follows Zad ⟨Zsm,⟨Zma,⟨ZqS,⟨ZqA,trivial⟩⟩⟩⟩ (by kernel_rfl)
def aw174:Fact:=⟨91,[(.int .i64 5),(.int .i64 0),(.int .i64 30)],(.bool true),none⟩
theorem ZsF:Zah Try.prog aw174.f aw174.args aw174.r aw174.fr:=Zab (n:=100000) (l:=[]) follows Zad trivial (by kernel_rfl)
def aw175:Fact:=⟨104,[(.list (.ints .i64 [1,0,0]))],(.row 0 0),(some ⟨3,1,(.ints .i64 [1,0,0])⟩)⟩
theorem Zm1:Zah Try.prog aw175.f aw175.args aw175.r aw175.fr:=Zhu _ (by decide)
def aw176:Fact:=⟨105,[(.agg (.gen [(.int .i64 3),(.list (.gen [(.list (.ints .i64 [0,1])),(.list (.ints .i64 [1,2]))]))])),(.list (.ints .i64 [1,0,0]))],(.row 0 0),(some ⟨3,1,(.ints .i64 [0])⟩)⟩
theorem Zmw:Zah Try.prog aw176.f aw176.args aw176.r aw176.fr:=Zab (n:=100000) (l:=[]) follows Zad trivial (by kernel_rfl)
def aw177:Fact:=⟨133,[(.list (.ints .i64 [0])),(.int .i64 0)],(.int .i64 0),none⟩
theorem Zst:Zah Try.prog aw177.f aw177.args aw177.r aw177.fr:=Zab (n:=100000) (l:=[]) follows Zad trivial (by kernel_rfl)
def aw178:Fact:=⟨121,[(.list (.ints .i64 [0])),(.int .i64 0)],(.bool true),none⟩
theorem Zr2:Zah Try.prog aw178.f aw178.args aw178.r aw178.fr:=Zab (n:=100000) (l:=[aw177]) follows Zad ⟨Zst,trivial⟩ (by kernel_rfl)
def aw179:Fact:=⟨133,[(.list (.ints .i64 [0])),(.int .i64 1)],(.int .i64 (-1)),none⟩
theorem Ztq:Zah Try.prog aw179.f aw179.args aw179.r aw179.fr:=Zab (n:=100000) (l:=[]) follows Zad trivial (by kernel_rfl)
def aw180:Fact:=⟨121,[(.list (.ints .i64 [0])),(.int .i64 1)],(.bool false),none⟩
theorem Zsn:Zah Try.prog aw180.f aw180.args aw180.r aw180.fr:=Zab (n:=100000) (l:=[aw179]) follows Zad ⟨Ztq,trivial⟩ (by kernel_rfl)
def aw181:Fact:=⟨106,[(.agg (.gen [(.int .i64 3),(.list (.gen [(.list (.ints .i64 [0,1])),(.list (.ints .i64 [1,2]))]))])),(.list (.ints .i64 [1,0,0]))],(.row 0 0),(some ⟨3,1,(.ints .i64 [0,0,0])⟩)⟩
theorem Zq2:Zah Try.prog aw181.f aw181.args aw181.r aw181.fr:=Zab (n:=100000) (l:=[aw176,aw178,aw180,aw175]) follows Zad ⟨Zmw,⟨Zr2,⟨Zsn,⟨Zm1,trivial⟩⟩⟩⟩ (by kernel_rfl)
def aw182:Fact:=⟨105,[(.agg (.gen [(.int .i64 3),(.list (.gen [(.list (.ints .i64 [0,1])),(.list (.ints .i64 [1,2]))]))])),(.list (.ints .i64 [0,0,0]))], .nils,none⟩
theorem Zq9:Zah Try.prog aw182.f aw182.args aw182.r aw182.fr:=Zab (n:=100000) (l:=[]) follows Zad trivial (by kernel_rfl)
def aw183:Fact:=⟨61,[(.agg (.gen [(.int .i64 3),(.list (.gen [(.list (.ints .i64 [0,1])),(.list (.ints .i64 [1,2]))]))])),(.list (.ints .i64 [1,0,0])),(.int .i64 5)],(.tup [(.row 0 0),(.int .i64 1),(.int .i64 0)]),(some ⟨3,1,(.ints .i64 [0,0,0])⟩)⟩
theorem Zrp:Zah Try.prog aw183.f aw183.args aw183.r aw183.fr:=Zab (n:=100000) (l:=[aw173,aw174,aw9,aw69,aw175,aw176,aw181,aw182]) follows Zad ⟨ZrE,⟨ZsF,⟨Zhe,⟨ZjB,⟨Zm1,⟨Zmw,⟨Zq2,⟨Zq9,trivial⟩⟩⟩⟩⟩⟩⟩⟩ (by kernel_rfl)
def aw184:Fact:=⟨83,[(.list (.ints .i64 [100000])),(.int .i64 4)],(.row 0 0),(some ⟨3,1,(.ints .i64 [100000,100000,100000,100000])⟩)⟩
theorem Ztc:Zah Try.prog aw184.f aw184.args aw184.r aw184.fr:=Zab (n:=100000) (l:=[aw26]) follows Zad ⟨Zpo,trivial⟩ (by kernel_rfl)
def aw185:Fact:=⟨81,[(.int .i64 0),(.int .i64 1),(.eptr (.agg (.gen [(.int .i64 2),(.int .i64 7),(.int .i64 5)])) 0)],(.tup [(.int .i64 2),(.int .i64 2)]),none⟩
theorem Zr1:Zah Try.prog aw185.f aw185.args aw185.r aw185.fr:=Zab (n:=100000) (l:=[aw47]) follows Zad ⟨Zpx,trivial⟩ (by kernel_rfl)
def aw186:Fact:=⟨81,[(.int .i64 1),(.int .i64 0),(.eptr (.agg (.gen [(.int .i64 2),(.int .i64 7),(.int .i64 5)])) 0)],(.tup [(.int .i64 0),(.int .i64 2)]),none⟩
theorem ZrS:Zah Try.prog aw186.f aw186.args aw186.r aw186.fr:=Zab (n:=100000) (l:=[aw35]) follows Zad ⟨Zp1,trivial⟩ (by kernel_rfl)
def aw187:Fact:=⟨81,[(.int .i64 1),(.int .i64 1),(.eptr (.agg (.gen [(.int .i64 2),(.int .i64 7),(.int .i64 5)])) 0)],(.tup [(.int .i64 2),(.int .i64 0)]),none⟩
theorem Zsv:Zah Try.prog aw187.f aw187.args aw187.r aw187.fr:=Zab (n:=100000) (l:=[aw50]) follows Zad ⟨Zqb,trivial⟩ (by kernel_rfl)
def aw188:Fact:=⟨81,[(.int .i64 2),(.int .i64 0),(.eptr (.agg (.gen [(.int .i64 2),(.int .i64 7),(.int .i64 5)])) 0)],(.tup [(.int .i64 1),(.int .i64 1)]),none⟩
theorem Zsl:Zah Try.prog aw188.f aw188.args aw188.r aw188.fr:=Zab (n:=100000) (l:=[aw39]) follows Zad ⟨ZpM,trivial⟩ (by kernel_rfl)
def aw189:Fact:=⟨81,[(.int .i64 2),(.int .i64 1),(.eptr (.agg (.gen [(.int .i64 2),(.int .i64 7),(.int .i64 5)])) 0)],(.tup [(.int .i64 3),(.int .i64 1)]),none⟩
theorem ZrT:Zah Try.prog aw189.f aw189.args aw189.r aw189.fr:=Zab (n:=100000) (l:=[aw53]) follows Zad ⟨ZoH,trivial⟩ (by kernel_rfl)
def aw190:Fact:=⟨81,[(.int .i64 3),(.int .i64 0),(.eptr (.agg (.gen [(.int .i64 2),(.int .i64 7),(.int .i64 5)])) 0)],(.tup [(.int .i64 1),(.int .i64 1)]),none⟩
theorem ZrK:Zah Try.prog aw190.f aw190.args aw190.r aw190.fr:=Zab (n:=100000) (l:=[aw42]) follows Zad ⟨ZoW,trivial⟩ (by kernel_rfl)
def aw191:Fact:=⟨81,[(.int .i64 3),(.int .i64 1),(.eptr (.agg (.gen [(.int .i64 2),(.int .i64 7),(.int .i64 5)])) 0)],(.tup [(.int .i64 3),(.int .i64 1)]),none⟩
theorem ZrQ:Zah Try.prog aw191.f aw191.args aw191.r aw191.fr:=Zab (n:=100000) (l:=[aw56]) follows Zad ⟨Zph,trivial⟩ (by kernel_rfl)
def aw192:Fact:=⟨32,[(.agg (.gen [(.int .i64 2),(.int .i64 7),(.int .i64 5)]))],(.tup [(.int .i64 5),(.int .i64 0)]),none⟩
theorem ZrJ:Zah Try.prog aw192.f aw192.args aw192.r aw192.fr:=Zab (n:=100000) (l:=[aw11,aw184,aw185,aw186,aw187,aw188,aw189,aw190,aw191]) follows Zad ⟨ZqK,⟨Ztc,⟨Zr1,⟨ZrS,⟨Zsv,⟨Zsl,⟨ZrT,⟨ZrK,⟨ZrQ,trivial⟩⟩⟩⟩⟩⟩⟩⟩⟩ (by kernel_rfl)
def aw193:Fact:=⟨17,[(.list (.ints .i64 [1,0])),(.list (.ints .i64 [1,0]))],(.bool true),none⟩
theorem ZsO:Zah Try.prog aw193.f aw193.args aw193.r aw193.fr:=Zab (n:=100000) (l:=[]) follows Zad trivial (by kernel_rfl)
def aw194:Fact:=⟨17,[(.list (.ints .i64 [0,0,0])),(.list (.ints .i64 [0,0,0]))],(.bool true),none⟩
theorem ZrB:Zah Try.prog aw194.f aw194.args aw194.r aw194.fr:=Zab (n:=100000) (l:=[]) follows Zad trivial (by kernel_rfl)
def aw195:Fact:=⟨12,[],(.bool true),none⟩
theorem ZqZ:Zah Try.prog aw195.f aw195.args aw195.r aw195.fr:=Zab (n:=100000) (l:=[aw0,aw1,aw58,aw59,aw61,aw70,aw69,aw156,aw157,aw183,aw192,aw193,aw194]) follows Zad ⟨ZAy,⟨ZBv,⟨ZwW,⟨ZuJ,⟨Zxc,⟨Zxj,⟨ZjB,⟨Zsb,⟨Zry,⟨Zrp,⟨ZrJ,⟨ZsO,⟨ZrB,trivial⟩⟩⟩⟩⟩⟩⟩⟩⟩⟩⟩⟩⟩ (by kernel_rfl)
end Go.Proofs.Ytklbmkllepkjcaa
/- Contracts as a list. No condition. -/
namespace Go.Proofs.Ytklbmkllepkjcaa
def blW(m p q:Int)(so:List Int):List Int:=if cdW m p q so=0 then blI m p q so else []
def bvW(m p q:Int)(so:List Int):Int:=if cdW m p q so=0 then bvI m p q so else 0
theorem Zp6{m p q:Int}{so:List Int}(h:cdW m p q so=0):OkC m p q so:=by
 unfold cdW at h
 split at h
 ·contradiction
 ·rename_i h1
  have h1:ZaA m p q=0:=Classical.not_not.1 h1
  have hm:=(Zak h1).1
  exact⟨h1,by rw[←ZhK (by omega)];exact h⟩
theorem Zqm{m p q:Int}{so:List Int} :cdW m p q so=cdE m p q so:=by
 unfold cdW cdE
 split
 ·rfl
 ·rename_i h1
  have h1:ZaA m p q=0:=Classical.not_not.1 h1
  have hm:=(Zak h1).1
  exact ZhK (by omega)
theorem ZuU(m p q:Int)(so:List Int)(hl:so.length≤1000000):Zah Try.prog 13 [.agg (.gen [.int .i64 m, .int .i64 p, .int .i64 q]), .list (.ints .i64 so)] (.tup [.list (.ints .i64 (blW m p q so)), .int .i64 (bvW m p q so), .int .i64 (cdW m p q so)]) ZuE:=by
 refine ZxT (Zvu m p q so) fun C hC=>ZFx hC ZAq ZDB ?_
 by_cases h1:ZaA m p q=0
 ·by_cases h2:sfW m so=0
  ·have e1:cdW m p q so=0:=by simp[cdW,h1,h2]
   have ho:=okI_iff.2 (Zp6 e1)
   simp[ZrY,h1,h2,hl,ho,blW,bvW,e1]
   exact⟨_, .same _, .tup ⟨.row _ rfl rfl rfl, .same _ rfl rfl, .same _ rfl rfl,trivial⟩,rfl⟩
  ·have e1:cdW m p q so=sfW m so:=by simp[cdW,h1]
   simp[ZrY,h1,h2,hl,blW,bvW,e1]
   exact⟨_, .same _, .tup ⟨.nil _ rfl, .same _ rfl rfl, .same _ rfl rfl,trivial⟩,rfl⟩
 ·have e1:cdW m p q so=ZaA m p q:=by simp[cdW,h1]
  simp[ZrY,h1,blW,bvW,e1]
  exact⟨_, .same _, .tup ⟨.nil _ rfl, .same _ rfl rfl, .same _ rfl rfl,trivial⟩,rfl⟩
def k13:Ctr:=⟨13,0,fun _ a=>match a with |[.agg (.gen [.int .i64 m, .int .i64 p, .int .i64 q]), .list (.ints .i64 so)]=>some (decide (so.length≤1000000), .tup [.list (.ints .i64 (blW m p q so)), .int .i64 (bvW m p q so), .int .i64 (cdW m p q so)],ZuE) |_=>none⟩
theorem ZxM:k13.OK Try.prog:=fun pa args r fr h=>by
 simp only[k13]at h
 split at h
 ·simp only[Option.some.injEq,Prod.mk.injEq,decide_eq_true_eq]at h
  obtain⟨h0,rfl,rfl⟩:=h
  exact ZuU _ _ _ _ h0
 ·cases h
def k12:Ctr:=⟨12,0,fun _ a=>match a with |[]=>some (true, .bool true,none) |_=>none⟩
theorem ZxZ:k12.OK Try.prog:=fun pa args r fr h=>by
 simp only[k12]at h
 split at h
 ·cases h
  exact ZqZ
 ·cases h
def J8:List Ctr:=[k13,k12]++J7
theorem Zsd:ZaP Try.prog J8:=⟨ZxM,⟨ZxZ,ZAq⟩⟩
end Go.Proofs.Ytklbmkllepkjcaa
