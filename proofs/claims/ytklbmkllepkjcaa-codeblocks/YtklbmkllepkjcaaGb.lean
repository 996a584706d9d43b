/- Calls at given values. Printed by facts.py. -/
import Derived.Test.YtklbmkllepkjcaaSr
import Derived.KernelRfl
namespace Go.Proofs.Ytklbmkllepkjcaa
set_option maxRecDepth 1000000
def aw0:Fact:=⟨58,[],(.agg (.gen [(.int .i64 2),(.int .i64 7),(.int .i64 5)])),none⟩
theorem ZAk:Zah Try.prog aw0.f aw0.args aw0.r aw0.fr:=Zab (n:=100000) (l:=[]) follows Zac trivial (by kernel_rfl)
def aw1:Fact:=⟨59,[],(.row 0 0),(some ⟨3,1,(.ints .i64 [(-1),(-1),1,1,(-1),(-1),1,1])⟩)⟩
theorem Zzd:Zah Try.prog aw1.f aw1.args aw1.r aw1.fr:=Zab (n:=100000) (l:=[]) follows Zac trivial (by kernel_rfl)
def aw2:Fact:=⟨91,[(.int .i64 2),(.int .i64 1),(.int .i64 3)],(.bool true),none⟩
theorem ZBE:Zah Try.prog aw2.f aw2.args aw2.r aw2.fr:=Zab (n:=100000) (l:=[]) follows Zac trivial (by kernel_rfl)
def aw3:Fact:=⟨91,[(.int .i64 7),(.int .i64 1),(.int .i64 7)],(.bool true),none⟩
theorem Zy0:Zah Try.prog aw3.f aw3.args aw3.r aw3.fr:=Zab (n:=100000) (l:=[]) follows Zac trivial (by kernel_rfl)
def aw4:Fact:=⟨111,[(.int .i64 7),(.eptr (.int .i64 1) 0),(.eptr (.int .i64 7) 0)],(.bool false),none⟩
theorem ZyE:Zah Try.prog aw4.f aw4.args aw4.r aw4.fr:=Zab (n:=100000) (l:=[aw3]) follows Zac ⟨Zy0,trivial⟩ (by kernel_rfl)
def aw5:Fact:=⟨91,[(.int .i64 5),(.int .i64 1),(.int .i64 7)],(.bool true),none⟩
theorem Zz7:Zah Try.prog aw5.f aw5.args aw5.r aw5.fr:=Zab (n:=100000) (l:=[]) follows Zac trivial (by kernel_rfl)
def aw6:Fact:=⟨111,[(.int .i64 5),(.eptr (.int .i64 1) 0),(.eptr (.int .i64 7) 0)],(.bool false),none⟩
theorem Zyj:Zah Try.prog aw6.f aw6.args aw6.r aw6.fr:=Zab (n:=100000) (l:=[aw5]) follows Zac ⟨Zz7,trivial⟩ (by kernel_rfl)
def aw7:Fact:=⟨123,[(.list (.ints .i64 [7,5])),(.fn 111 [(.eptr (.int .i64 1) 0),(.eptr (.int .i64 7) 0)])],(.int .i64 (-1)),none⟩
theorem ZAR:Zah Try.prog aw7.f aw7.args aw7.r aw7.fr:=Zab (n:=100000) (l:=[aw4,aw6]) follows Zac ⟨ZyE,⟨Zyj,trivial⟩⟩ (by kernel_rfl)
def aw8:Fact:=⟨110,[(.list (.ints .i64 [7,5])),(.fn 111 [(.eptr (.int .i64 1) 0),(.eptr (.int .i64 7) 0)])],(.bool false),none⟩
theorem Zx2:Zah Try.prog aw8.f aw8.args aw8.r aw8.fr:=Zab (n:=100000) (l:=[aw7]) follows Zac ⟨ZAR,trivial⟩ (by kernel_rfl)
def aw9:Fact:=⟨85,[(.bool true),(.int .i64 2)],(.int .i64 0),none⟩
theorem Zhh:Zah Try.prog aw9.f aw9.args aw9.r aw9.fr:=Zab (n:=100000) (l:=[]) follows Zac trivial (by kernel_rfl)
def aw10:Fact:=⟨70,[(.list (.ints .i64 [7,5])),(.int .i64 1),(.int .i64 7)],(.int .i64 0),none⟩
theorem Zvn:Zah Try.prog aw10.f aw10.args aw10.r aw10.fr:=Zab (n:=100000) (l:=[aw8,aw9]) follows Zac ⟨Zx2,⟨Zhh,trivial⟩⟩ (by kernel_rfl)
def aw11:Fact:=⟨63,[(.agg (.gen [(.int .i64 2),(.int .i64 7),(.int .i64 5)]))],(.int .i64 0),none⟩
theorem ZqV:Zah Try.prog aw11.f aw11.args aw11.r aw11.fr:=Zab (n:=100000) (l:=[aw2,aw10]) follows Zac ⟨ZBE,⟨Zvn,trivial⟩⟩ (by kernel_rfl)
def aw12:Fact:=⟨85,[(.bool true),(.int .i64 10)],(.int .i64 0),none⟩
theorem Zmy:Zah Try.prog aw12.f aw12.args aw12.r aw12.fr:=Zab (n:=100000) (l:=[]) follows Zac trivial (by kernel_rfl)
def aw13:Fact:=⟨85,[(.bool true),(.int .i64 8)],(.int .i64 0),none⟩
theorem Zqa:Zah Try.prog aw13.f aw13.args aw13.r aw13.fr:=Zab (n:=100000) (l:=[]) follows Zac trivial (by kernel_rfl)
def aw14:Fact:=⟨91,[(.int .i64 (-1)),(.int .i64 (-7)),(.int .i64 7)],(.bool true),none⟩
theorem ZwW:Zah Try.prog aw14.f aw14.args aw14.r aw14.fr:=Zab (n:=100000) (l:=[]) follows Zac trivial (by kernel_rfl)
def aw15:Fact:=⟨111,[(.int .i64 (-1)),(.eptr (.int .i64 (-7)) 0),(.eptr (.int .i64 7) 0)],(.bool false),none⟩
theorem Zwt:Zah Try.prog aw15.f aw15.args aw15.r aw15.fr:=Zab (n:=100000) (l:=[aw14]) follows Zac ⟨ZwW,trivial⟩ (by kernel_rfl)
def aw16:Fact:=⟨91,[(.int .i64 1),(.int .i64 (-7)),(.int .i64 7)],(.bool true),none⟩
theorem ZvX:Zah Try.prog aw16.f aw16.args aw16.r aw16.fr:=Zab (n:=100000) (l:=[]) follows Zac trivial (by kernel_rfl)
def aw17:Fact:=⟨111,[(.int .i64 1),(.eptr (.int .i64 (-7)) 0),(.eptr (.int .i64 7) 0)],(.bool false),none⟩
theorem Zwv:Zah Try.prog aw17.f aw17.args aw17.r aw17.fr:=Zab (n:=100000) (l:=[aw16]) follows Zac ⟨ZvX,trivial⟩ (by kernel_rfl)
def aw18:Fact:=⟨123,[(.list (.ints .i64 [(-1),(-1),1,1,(-1),(-1),1,1])),(.fn 111 [(.eptr (.int .i64 (-7)) 0),(.eptr (.int .i64 7) 0)])],(.int .i64 (-1)),none⟩
theorem ZwN:Zah Try.prog aw18.f aw18.args aw18.r aw18.fr:=Zab (n:=100000) (l:=[aw15,aw17]) follows Zac ⟨Zwt,⟨Zwv,trivial⟩⟩ (by kernel_rfl)
def aw19:Fact:=⟨110,[(.list (.ints .i64 [(-1),(-1),1,1,(-1),(-1),1,1])),(.fn 111 [(.eptr (.int .i64 (-7)) 0),(.eptr (.int .i64 7) 0)])],(.bool false),none⟩
theorem ZuK:Zah Try.prog aw19.f aw19.args aw19.r aw19.fr:=Zab (n:=100000) (l:=[aw18]) follows Zac ⟨ZwN,trivial⟩ (by kernel_rfl)
def aw20:Fact:=⟨70,[(.list (.ints .i64 [(-1),(-1),1,1,(-1),(-1),1,1])),(.int .i64 (-7)),(.int .i64 7)],(.int .i64 0),none⟩
theorem ZvS:Zah Try.prog aw20.f aw20.args aw20.r aw20.fr:=Zab (n:=100000) (l:=[aw19,aw9]) follows Zac ⟨ZuK,⟨Zhh,trivial⟩⟩ (by kernel_rfl)
def aw21:Fact:=⟨72,[(.list (.ints .i64 [0,0,0]))],(.int .i64 0),none⟩
theorem ZpB:Zah Try.prog aw21.f aw21.args aw21.r aw21.fr:=Zab (n:=100000) (l:=[]) follows Zac trivial (by kernel_rfl)
def aw22:Fact:=⟨64,[(.agg (.gen [(.int .i64 2),(.int .i64 7),(.int .i64 5)])),(.list (.ints .i64 [(-1),(-1),1,1,(-1),(-1),1,1]))],(.int .i64 0),none⟩
theorem Zv3:Zah Try.prog aw22.f aw22.args aw22.r aw22.fr:=Zab (n:=100000) (l:=[aw12,aw13,aw20,aw21]) follows Zac ⟨Zmy,⟨Zqa,⟨ZvS,⟨ZpB,trivial⟩⟩⟩⟩ (by kernel_rfl)
def aw23:Fact:=⟨84,[(.agg (.gen [(.int .i64 2),(.int .i64 7),(.int .i64 5),(.list (.ints .i64 [(-1),(-1),1,1,(-1),(-1),1,1]))]))],(.int .i64 4),none⟩
theorem Zps:Zah Try.prog aw23.f aw23.args aw23.r aw23.fr:=Zab (n:=100000) (l:=[]) follows Zac trivial (by kernel_rfl)
def aw24:Fact:=⟨86,[(.agg (.gen [(.int .i64 2),(.int .i64 7),(.int .i64 5),(.list (.ints .i64 [(-1),(-1),1,1,(-1),(-1),1,1]))]))],(.int .i64 4),none⟩
theorem ZvK:Zah Try.prog aw24.f aw24.args aw24.r aw24.fr:=Zab (n:=100000) (l:=[]) follows Zac trivial (by kernel_rfl)
def aw25:Fact:=⟨127,[(.int .u64 1),(.int .u64 4)],(.tup [(.int .u64 0),(.int .u64 4)]),none⟩
theorem Zvm:Zah Try.prog aw25.f aw25.args aw25.r aw25.fr:=Zab (n:=100000) (l:=[]) follows Zac trivial (by kernel_rfl)
def aw26:Fact:=⟨114,[(.int .u64 1),(.int .u64 4)],(.tup [(.int .u64 0),(.int .u64 4)]),none⟩
theorem ZqU:Zah Try.prog aw26.f aw26.args aw26.r aw26.fr:=Zab (n:=100000) (l:=[aw25]) follows Zac ⟨Zvm,trivial⟩ (by kernel_rfl)
def aw27:Fact:=⟨122,[(.list (.flts .f32 [3351465984])),(.int .i64 4)],(.row 0 0),(some ⟨118,1,(.flts .f32 [3351465984,3351465984,3351465984,3351465984])⟩)⟩
theorem Zu2:Zah Try.prog aw27.f aw27.args aw27.r aw27.fr:=Zab (n:=100000) (l:=[aw26]) follows Zac ⟨ZqU,trivial⟩ (by kernel_rfl)
def aw28:Fact:=⟨125,[(.int .u64 0)],(.int .i64 0),none⟩
theorem Zv6:Zah Try.prog aw28.f aw28.args aw28.r aw28.fr:=Zab (n:=100000) (l:=[]) follows Zac trivial (by kernel_rfl)
def aw29:Fact:=⟨113,[(.int .u64 0)],(.int .i64 0),none⟩
theorem Zqv:Zah Try.prog aw29.f aw29.args aw29.r aw29.fr:=Zab (n:=100000) (l:=[aw28]) follows Zac ⟨Zv6,trivial⟩ (by kernel_rfl)
def aw30:Fact:=⟨82,[(.agg (.gen [(.int .i64 2),(.int .i64 7),(.int .i64 5)])),(.int .i64 0),(.int .i64 0)],(.tup [(.int .i64 0),(.agg (.ints .i64 [0,0]))]),none⟩
theorem Zwh:Zah Try.prog aw30.f aw30.args aw30.r aw30.fr:=Zab (n:=100000) (l:=[aw29]) follows Zac ⟨Zqv,trivial⟩ (by kernel_rfl)
def aw31:Fact:=⟨89,[(.int .i64 0),(.int .i64 1)],(.int .i64 1),none⟩
theorem Zwm:Zah Try.prog aw31.f aw31.args aw31.r aw31.fr:=Zab (n:=100000) (l:=[]) follows Zac trivial (by kernel_rfl)
def aw32:Fact:=⟨108,[(.agg (.gen [(.int .i64 2),(.int .i64 7),(.int .i64 5),(.list (.ints .i64 [(-1),(-1),1,1,(-1),(-1),1,1]))]))],(.int .i64 2),none⟩
theorem Zvf:Zah Try.prog aw32.f aw32.args aw32.r aw32.fr:=Zab (n:=100000) (l:=[aw23]) follows Zac ⟨Zps,trivial⟩ (by kernel_rfl)
def aw33:Fact:=⟨125,[(.int .u64 1)],(.int .i64 1),none⟩
theorem ZuH:Zah Try.prog aw33.f aw33.args aw33.r aw33.fr:=Zab (n:=100000) (l:=[]) follows Zac trivial (by kernel_rfl)
def aw34:Fact:=⟨113,[(.int .u64 1)],(.int .i64 1),none⟩
theorem ZpN:Zah Try.prog aw34.f aw34.args aw34.r aw34.fr:=Zab (n:=100000) (l:=[aw33]) follows Zac ⟨ZuH,trivial⟩ (by kernel_rfl)
def aw35:Fact:=⟨82,[(.agg (.gen [(.int .i64 2),(.int .i64 7),(.int .i64 5)])),(.int .i64 1),(.int .i64 0)],(.tup [(.int .i64 0),(.agg (.ints .i64 [1,1]))]),none⟩
theorem Zpc:Zah Try.prog aw35.f aw35.args aw35.r aw35.fr:=Zab (n:=100000) (l:=[aw34]) follows Zac ⟨ZpN,trivial⟩ (by kernel_rfl)
def aw36:Fact:=⟨89,[(.int .i64 1),(.int .i64 1)],(.int .i64 (-1)),none⟩
theorem Zw3:Zah Try.prog aw36.f aw36.args aw36.r aw36.fr:=Zab (n:=100000) (l:=[]) follows Zac trivial (by kernel_rfl)
def aw37:Fact:=⟨125,[(.int .u64 2)],(.int .i64 1),none⟩
theorem ZvW:Zah Try.prog aw37.f aw37.args aw37.r aw37.fr:=Zab (n:=100000) (l:=[]) follows Zac trivial (by kernel_rfl)
def aw38:Fact:=⟨113,[(.int .u64 2)],(.int .i64 1),none⟩
theorem Zwi:Zah Try.prog aw38.f aw38.args aw38.r aw38.fr:=Zab (n:=100000) (l:=[aw37]) follows Zac ⟨ZvW,trivial⟩ (by kernel_rfl)
def aw39:Fact:=⟨82,[(.agg (.gen [(.int .i64 2),(.int .i64 7),(.int .i64 5)])),(.int .i64 2),(.int .i64 0)],(.tup [(.int .i64 1),(.agg (.ints .i64 [1,0]))]),none⟩
theorem ZqO:Zah Try.prog aw39.f aw39.args aw39.r aw39.fr:=Zab (n:=100000) (l:=[aw38,aw29]) follows Zac ⟨Zwi,⟨Zqv,trivial⟩⟩ (by kernel_rfl)
def aw40:Fact:=⟨125,[(.int .u64 3)],(.int .i64 2),none⟩
theorem ZvH:Zah Try.prog aw40.f aw40.args aw40.r aw40.fr:=Zab (n:=100000) (l:=[]) follows Zac trivial (by kernel_rfl)
def aw41:Fact:=⟨113,[(.int .u64 3)],(.int .i64 2),none⟩
theorem Zu0:Zah Try.prog aw41.f aw41.args aw41.r aw41.fr:=Zab (n:=100000) (l:=[aw40]) follows Zac ⟨ZvH,trivial⟩ (by kernel_rfl)
def aw42:Fact:=⟨82,[(.agg (.gen [(.int .i64 2),(.int .i64 7),(.int .i64 5)])),(.int .i64 3),(.int .i64 0)],(.tup [(.int .i64 1),(.agg (.ints .i64 [0,1]))]),none⟩
theorem ZqG:Zah Try.prog aw42.f aw42.args aw42.r aw42.fr:=Zab (n:=100000) (l:=[aw41,aw34]) follows Zac ⟨Zu0,⟨ZpN,trivial⟩⟩ (by kernel_rfl)
def aw43:Fact:=⟨89,[(.int .i64 0),(.int .i64 (-1))],(.int .i64 (-1)),none⟩
theorem Zvr:Zah Try.prog aw43.f aw43.args aw43.r aw43.fr:=Zab (n:=100000) (l:=[]) follows Zac trivial (by kernel_rfl)
def aw44:Fact:=⟨89,[(.int .i64 1),(.int .i64 (-1))],(.int .i64 1),none⟩
theorem Zvj:Zah Try.prog aw44.f aw44.args aw44.r aw44.fr:=Zab (n:=100000) (l:=[]) follows Zac trivial (by kernel_rfl)
def aw45:Fact:=⟨125,[(.int .u64 4)],(.int .i64 1),none⟩
theorem ZwH:Zah Try.prog aw45.f aw45.args aw45.r aw45.fr:=Zab (n:=100000) (l:=[]) follows Zac trivial (by kernel_rfl)
def aw46:Fact:=⟨113,[(.int .u64 4)],(.int .i64 1),none⟩
theorem Zpv:Zah Try.prog aw46.f aw46.args aw46.r aw46.fr:=Zab (n:=100000) (l:=[aw45]) follows Zac ⟨ZwH,trivial⟩ (by kernel_rfl)
def aw47:Fact:=⟨82,[(.agg (.gen [(.int .i64 2),(.int .i64 7),(.int .i64 5)])),(.int .i64 0),(.int .i64 1)],(.tup [(.int .i64 2),(.agg (.ints .i64 [1,1]))]),none⟩
theorem Zo0:Zah Try.prog aw47.f aw47.args aw47.r aw47.fr:=Zab (n:=100000) (l:=[aw46]) follows Zac ⟨Zpv,trivial⟩ (by kernel_rfl)
def aw48:Fact:=⟨125,[(.int .u64 5)],(.int .i64 2),none⟩
theorem Zv1:Zah Try.prog aw48.f aw48.args aw48.r aw48.fr:=Zab (n:=100000) (l:=[]) follows Zac trivial (by kernel_rfl)
def aw49:Fact:=⟨113,[(.int .u64 5)],(.int .i64 2),none⟩
theorem Zpy:Zah Try.prog aw49.f aw49.args aw49.r aw49.fr:=Zab (n:=100000) (l:=[aw48]) follows Zac ⟨Zv1,trivial⟩ (by kernel_rfl)
def aw50:Fact:=⟨82,[(.agg (.gen [(.int .i64 2),(.int .i64 7),(.int .i64 5)])),(.int .i64 1),(.int .i64 1)],(.tup [(.int .i64 2),(.agg (.ints .i64 [0,0]))]),none⟩
theorem Zqy:Zah Try.prog aw50.f aw50.args aw50.r aw50.fr:=Zab (n:=100000) (l:=[aw49]) follows Zac ⟨Zpy,trivial⟩ (by kernel_rfl)
def aw51:Fact:=⟨125,[(.int .u64 6)],(.int .i64 2),none⟩
theorem Zw8:Zah Try.prog aw51.f aw51.args aw51.r aw51.fr:=Zab (n:=100000) (l:=[]) follows Zac trivial (by kernel_rfl)
def aw52:Fact:=⟨113,[(.int .u64 6)],(.int .i64 2),none⟩
theorem ZvP:Zah Try.prog aw52.f aw52.args aw52.r aw52.fr:=Zab (n:=100000) (l:=[aw51]) follows Zac ⟨Zw8,trivial⟩ (by kernel_rfl)
def aw53:Fact:=⟨82,[(.agg (.gen [(.int .i64 2),(.int .i64 7),(.int .i64 5)])),(.int .i64 2),(.int .i64 1)],(.tup [(.int .i64 3),(.agg (.ints .i64 [0,1]))]),none⟩
theorem ZqH:Zah Try.prog aw53.f aw53.args aw53.r aw53.fr:=Zab (n:=100000) (l:=[aw52,aw46]) follows Zac ⟨ZvP,⟨Zpv,trivial⟩⟩ (by kernel_rfl)
def aw54:Fact:=⟨125,[(.int .u64 7)],(.int .i64 3),none⟩
theorem Zwn:Zah Try.prog aw54.f aw54.args aw54.r aw54.fr:=Zab (n:=100000) (l:=[]) follows Zac trivial (by kernel_rfl)
def aw55:Fact:=⟨113,[(.int .u64 7)],(.int .i64 3),none⟩
theorem ZwM:Zah Try.prog aw55.f aw55.args aw55.r aw55.fr:=Zab (n:=100000) (l:=[aw54]) follows Zac ⟨Zwn,trivial⟩ (by kernel_rfl)
def aw56:Fact:=⟨82,[(.agg (.gen [(.int .i64 2),(.int .i64 7),(.int .i64 5)])),(.int .i64 3),(.int .i64 1)],(.tup [(.int .i64 3),(.agg (.ints .i64 [1,0]))]),none⟩
theorem ZpH:Zah Try.prog aw56.f aw56.args aw56.r aw56.fr:=Zab (n:=100000) (l:=[aw55,aw49]) follows Zac ⟨ZwM,⟨Zpy,trivial⟩⟩ (by kernel_rfl)
def aw57:Fact:=⟨65,[(.agg (.gen [(.int .i64 2),(.int .i64 7),(.int .i64 5),(.list (.ints .i64 [(-1),(-1),1,1,(-1),(-1),1,1]))]))],(.tup [(.row 0 0),(.int .i64 6)]),(some ⟨3,1,(.ints .i64 [1,0])⟩)⟩
theorem ZwT:Zah Try.prog aw57.f aw57.args aw57.r aw57.fr:=Zab (n:=100000) (l:=[aw23,aw24,aw27,aw30,aw31,aw32,aw35,aw36,aw39,aw42,aw43,aw44,aw47,aw50,aw53,aw56]) follows Zac ⟨Zps,⟨ZvK,⟨Zu2,⟨Zwh,⟨Zwm,⟨Zvf,⟨Zpc,⟨Zw3,⟨ZqO,⟨ZqG,⟨Zvr,⟨Zvj,⟨Zo0,⟨Zqy,⟨ZqH,⟨ZpH,trivial⟩⟩⟩⟩⟩⟩⟩⟩⟩⟩⟩⟩⟩⟩⟩⟩ (by kernel_rfl)
def aw58:Fact:=⟨13,[(.agg (.gen [(.int .i64 2),(.int .i64 7),(.int .i64 5)])),(.list (.ints .i64 [(-1),(-1),1,1,(-1),(-1),1,1]))],(.tup [(.row 0 0),(.int .i64 6),(.int .i64 0)]),(some ⟨3,1,(.ints .i64 [1,0])⟩)⟩
theorem ZwV:Zah Try.prog aw58.f aw58.args aw58.r aw58.fr:=Zab (n:=100000) (l:=[aw11,aw22,aw57]) follows Zac ⟨ZqV,⟨Zv3,⟨ZwT,trivial⟩⟩⟩ (by kernel_rfl)
def aw59:Fact:=⟨60,[(.int .i64 1)],(.row 0 0),(some ⟨3,1,(.ints .i64 [0,0,0,0,0,0,0,0,0,0,0,0,1])⟩)⟩
theorem ZvT:Zah Try.prog aw59.f aw59.args aw59.r aw59.fr:=Zab (n:=100000) (l:=[]) follows Zac trivial (by kernel_rfl)
def aw60:Fact:=⟨91,[(.int .i64 1),(.int .i64 1),(.int .i64 3)],(.bool true),none⟩
theorem Zwf:Zah Try.prog aw60.f aw60.args aw60.r aw60.fr:=Zab (n:=100000) (l:=[]) follows Zac trivial (by kernel_rfl)
def aw61:Fact:=⟨73,[(.int .i64 1)],(.int .i64 0),none⟩
theorem ZuJ:Zah Try.prog aw61.f aw61.args aw61.r aw61.fr:=Zab (n:=100000) (l:=[aw60,aw9]) follows Zac ⟨Zwf,⟨Zhh,trivial⟩⟩ (by kernel_rfl)
def aw62:Fact:=⟨91,[(.int .i64 0),(.int .i64 0),(.int .i64 15)],(.bool true),none⟩
theorem Zv8:Zah Try.prog aw62.f aw62.args aw62.r aw62.fr:=Zab (n:=100000) (l:=[]) follows Zac trivial (by kernel_rfl)
def aw63:Fact:=⟨111,[(.int .i64 0),(.eptr (.int .i64 0) 0),(.eptr (.int .i64 15) 0)],(.bool false),none⟩
theorem Zvu:Zah Try.prog aw63.f aw63.args aw63.r aw63.fr:=Zab (n:=100000) (l:=[aw62]) follows Zac ⟨Zv8,trivial⟩ (by kernel_rfl)
def aw64:Fact:=⟨91,[(.int .i64 1),(.int .i64 0),(.int .i64 15)],(.bool true),none⟩
theorem Zvz:Zah Try.prog aw64.f aw64.args aw64.r aw64.fr:=Zab (n:=100000) (l:=[]) follows Zac trivial (by kernel_rfl)
def aw65:Fact:=⟨111,[(.int .i64 1),(.eptr (.int .i64 0) 0),(.eptr (.int .i64 15) 0)],(.bool false),none⟩
theorem Zvw:Zah Try.prog aw65.f aw65.args aw65.r aw65.fr:=Zab (n:=100000) (l:=[aw64]) follows Zac ⟨Zvz,trivial⟩ (by kernel_rfl)
def aw66:Fact:=⟨123,[(.list (.ints .i64 [0,0,0,0,0,0,0,0,0,0,0,0,1])),(.fn 111 [(.eptr (.int .i64 0) 0),(.eptr (.int .i64 15) 0)])],(.int .i64 (-1)),none⟩
theorem Zvs:Zah Try.prog aw66.f aw66.args aw66.r aw66.fr:=Zab (n:=100000) (l:=[aw63,aw65]) follows Zac ⟨Zvu,⟨Zvw,trivial⟩⟩ (by kernel_rfl)
def aw67:Fact:=⟨110,[(.list (.ints .i64 [0,0,0,0,0,0,0,0,0,0,0,0,1])),(.fn 111 [(.eptr (.int .i64 0) 0),(.eptr (.int .i64 15) 0)])],(.bool false),none⟩
theorem Zwo:Zah Try.prog aw67.f aw67.args aw67.r aw67.fr:=Zab (n:=100000) (l:=[aw66]) follows Zac ⟨Zvs,trivial⟩ (by kernel_rfl)
def aw68:Fact:=⟨70,[(.list (.ints .i64 [0,0,0,0,0,0,0,0,0,0,0,0,1])),(.int .i64 0),(.int .i64 15)],(.int .i64 0),none⟩
theorem Zwc:Zah Try.prog aw68.f aw68.args aw68.r aw68.fr:=Zab (n:=100000) (l:=[aw67,aw9]) follows Zac ⟨Zwo,⟨Zhh,trivial⟩⟩ (by kernel_rfl)
def aw69:Fact:=⟨72,[(.list (.ints .i64 [0,0]))],(.int .i64 0),none⟩
theorem Zkd:Zah Try.prog aw69.f aw69.args aw69.r aw69.fr:=Zab (n:=100000) (l:=[]) follows Zac trivial (by kernel_rfl)
def aw70:Fact:=⟨74,[(.list (.ints .i64 [0,0,0,0,0,0,0,0,0,0,0,0,1])),(.int .i64 13)],(.int .i64 0),none⟩
theorem Zvt:Zah Try.prog aw70.f aw70.args aw70.r aw70.fr:=Zab (n:=100000) (l:=[aw12,aw68,aw69]) follows Zac ⟨Zmy,⟨Zwc,⟨Zkd,trivial⟩⟩⟩ (by kernel_rfl)
def aw71:Fact:=⟨71,[(.int .i64 1),(.int .i64 2)],(.int .i64 2),none⟩
theorem ZaI:Zah Try.prog aw71.f aw71.args aw71.r aw71.fr:=Zab (n:=100000) (l:=[]) follows Zac trivial (by kernel_rfl)
def aw72:Fact:=⟨71,[(.int .i64 2),(.int .i64 2)],(.int .i64 4),none⟩
theorem ZaK:Zah Try.prog aw72.f aw72.args aw72.r aw72.fr:=Zab (n:=100000) (l:=[]) follows Zac trivial (by kernel_rfl)
def aw73:Fact:=⟨71,[(.int .i64 4),(.int .i64 2)],(.int .i64 8),none⟩
theorem ZaX:Zah Try.prog aw73.f aw73.args aw73.r aw73.fr:=Zab (n:=100000) (l:=[]) follows Zac trivial (by kernel_rfl)
def aw74:Fact:=⟨71,[(.int .i64 8),(.int .i64 2)],(.int .i64 3),none⟩
theorem Zba:Zah Try.prog aw74.f aw74.args aw74.r aw74.fr:=Zab (n:=100000) (l:=[]) follows Zac trivial (by kernel_rfl)
def aw75:Fact:=⟨71,[(.int .i64 3),(.int .i64 2)],(.int .i64 6),none⟩
theorem Zbb:Zah Try.prog aw75.f aw75.args aw75.r aw75.fr:=Zab (n:=100000) (l:=[]) follows Zac trivial (by kernel_rfl)
def aw76:Fact:=⟨71,[(.int .i64 6),(.int .i64 2)],(.int .i64 12),none⟩
theorem Zbp:Zah Try.prog aw76.f aw76.args aw76.r aw76.fr:=Zab (n:=100000) (l:=[]) follows Zac trivial (by kernel_rfl)
def aw77:Fact:=⟨71,[(.int .i64 12),(.int .i64 2)],(.int .i64 11),none⟩
theorem ZbF:Zah Try.prog aw77.f aw77.args aw77.r aw77.fr:=Zab (n:=100000) (l:=[]) follows Zac trivial (by kernel_rfl)
def aw78:Fact:=⟨71,[(.int .i64 11),(.int .i64 2)],(.int .i64 5),none⟩
theorem Zca:Zah Try.prog aw78.f aw78.args aw78.r aw78.fr:=Zab (n:=100000) (l:=[]) follows Zac trivial (by kernel_rfl)
def aw79:Fact:=⟨71,[(.int .i64 5),(.int .i64 2)],(.int .i64 10),none⟩
theorem ZcH:Zah Try.prog aw79.f aw79.args aw79.r aw79.fr:=Zab (n:=100000) (l:=[]) follows Zac trivial (by kernel_rfl)
def aw80:Fact:=⟨71,[(.int .i64 10),(.int .i64 2)],(.int .i64 7),none⟩
theorem Zej:Zah Try.prog aw80.f aw80.args aw80.r aw80.fr:=Zab (n:=100000) (l:=[]) follows Zac trivial (by kernel_rfl)
def aw81:Fact:=⟨71,[(.int .i64 7),(.int .i64 2)],(.int .i64 14),none⟩
theorem ZfK:Zah Try.prog aw81.f aw81.args aw81.r aw81.fr:=Zab (n:=100000) (l:=[]) follows Zac trivial (by kernel_rfl)
def aw82:Fact:=⟨71,[(.int .i64 14),(.int .i64 2)],(.int .i64 15),none⟩
theorem ZjV:Zah Try.prog aw82.f aw82.args aw82.r aw82.fr:=Zab (n:=100000) (l:=[]) follows Zac trivial (by kernel_rfl)
def aw83:Fact:=⟨71,[(.int .i64 15),(.int .i64 2)],(.int .i64 13),none⟩
theorem ZlS:Zah Try.prog aw83.f aw83.args aw83.r aw83.fr:=Zab (n:=100000) (l:=[]) follows Zac trivial (by kernel_rfl)
def aw84:Fact:=⟨71,[(.int .i64 13),(.int .i64 2)],(.int .i64 9),none⟩
theorem ZvA:Zah Try.prog aw84.f aw84.args aw84.r aw84.fr:=Zab (n:=100000) (l:=[]) follows Zac trivial (by kernel_rfl)
def aw85:Fact:=⟨117,[(.int .i64 14)],(.int .i64 9),none⟩
theorem Zqs:Zah Try.prog aw85.f aw85.args aw85.r aw85.fr:=Zab (n:=100000) (l:=[aw71,aw72,aw73,aw74,aw75,aw76,aw77,aw78,aw79,aw80,aw81,aw82,aw83,aw84]) follows Zac ⟨ZaI,⟨ZaK,⟨ZaX,⟨Zba,⟨Zbb,⟨Zbp,⟨ZbF,⟨Zca,⟨ZcH,⟨Zej,⟨ZfK,⟨ZjV,⟨ZlS,⟨ZvA,trivial⟩⟩⟩⟩⟩⟩⟩⟩⟩⟩⟩⟩⟩⟩ (by kernel_rfl)
def aw86:Fact:=⟨71,[(.int .i64 0),(.int .i64 9)],(.int .i64 0),none⟩
theorem ZlD:Zah Try.prog aw86.f aw86.args aw86.r aw86.fr:=Zab (n:=100000) (l:=[]) follows Zac trivial (by kernel_rfl)
def aw87:Fact:=⟨117,[(.int .i64 13)],(.int .i64 13),none⟩
theorem Zv7:Zah Try.prog aw87.f aw87.args aw87.r aw87.fr:=Zab (n:=100000) (l:=[aw71,aw72,aw73,aw74,aw75,aw76,aw77,aw78,aw79,aw80,aw81,aw82,aw83]) follows Zac ⟨ZaI,⟨ZaK,⟨ZaX,⟨Zba,⟨Zbb,⟨Zbp,⟨ZbF,⟨Zca,⟨ZcH,⟨Zej,⟨ZfK,⟨ZjV,⟨ZlS,trivial⟩⟩⟩⟩⟩⟩⟩⟩⟩⟩⟩⟩⟩ (by kernel_rfl)
def aw88:Fact:=⟨71,[(.int .i64 0),(.int .i64 13)],(.int .i64 0),none⟩
theorem Zpm:Zah Try.prog aw88.f aw88.args aw88.r aw88.fr:=Zab (n:=100000) (l:=[]) follows Zac trivial (by kernel_rfl)
def aw89:Fact:=⟨117,[(.int .i64 12)],(.int .i64 15),none⟩
theorem Zqd:Zah Try.prog aw89.f aw89.args aw89.r aw89.fr:=Zab (n:=100000) (l:=[aw71,aw72,aw73,aw74,aw75,aw76,aw77,aw78,aw79,aw80,aw81,aw82]) follows Zac ⟨ZaI,⟨ZaK,⟨ZaX,⟨Zba,⟨Zbb,⟨Zbp,⟨ZbF,⟨Zca,⟨ZcH,⟨Zej,⟨ZfK,⟨ZjV,trivial⟩⟩⟩⟩⟩⟩⟩⟩⟩⟩⟩⟩ (by kernel_rfl)
def aw90:Fact:=⟨71,[(.int .i64 0),(.int .i64 15)],(.int .i64 0),none⟩
theorem Zo9:Zah Try.prog aw90.f aw90.args aw90.r aw90.fr:=Zab (n:=100000) (l:=[]) follows Zac trivial (by kernel_rfl)
def aw91:Fact:=⟨117,[(.int .i64 11)],(.int .i64 14),none⟩
theorem Zw4:Zah Try.prog aw91.f aw91.args aw91.r aw91.fr:=Zab (n:=100000) (l:=[aw71,aw72,aw73,aw74,aw75,aw76,aw77,aw78,aw79,aw80,aw81]) follows Zac ⟨ZaI,⟨ZaK,⟨ZaX,⟨Zba,⟨Zbb,⟨Zbp,⟨ZbF,⟨Zca,⟨ZcH,⟨Zej,⟨ZfK,trivial⟩⟩⟩⟩⟩⟩⟩⟩⟩⟩⟩ (by kernel_rfl)
def aw92:Fact:=⟨71,[(.int .i64 0),(.int .i64 14)],(.int .i64 0),none⟩
theorem ZlZ:Zah Try.prog aw92.f aw92.args aw92.r aw92.fr:=Zab (n:=100000) (l:=[]) follows Zac trivial (by kernel_rfl)
def aw93:Fact:=⟨117,[(.int .i64 10)],(.int .i64 7),none⟩
theorem Zo4:Zah Try.prog aw93.f aw93.args aw93.r aw93.fr:=Zab (n:=100000) (l:=[aw71,aw72,aw73,aw74,aw75,aw76,aw77,aw78,aw79,aw80]) follows Zac ⟨ZaI,⟨ZaK,⟨ZaX,⟨Zba,⟨Zbb,⟨Zbp,⟨ZbF,⟨Zca,⟨ZcH,⟨Zej,trivial⟩⟩⟩⟩⟩⟩⟩⟩⟩⟩ (by kernel_rfl)
def aw94:Fact:=⟨71,[(.int .i64 0),(.int .i64 7)],(.int .i64 0),none⟩
theorem ZqT:Zah Try.prog aw94.f aw94.args aw94.r aw94.fr:=Zab (n:=100000) (l:=[]) follows Zac trivial (by kernel_rfl)
def aw95:Fact:=⟨117,[(.int .i64 9)],(.int .i64 10),none⟩
theorem ZvU:Zah Try.prog aw95.f aw95.args aw95.r aw95.fr:=Zab (n:=100000) (l:=[aw71,aw72,aw73,aw74,aw75,aw76,aw77,aw78,aw79]) follows Zac ⟨ZaI,⟨ZaK,⟨ZaX,⟨Zba,⟨Zbb,⟨Zbp,⟨ZbF,⟨Zca,⟨ZcH,trivial⟩⟩⟩⟩⟩⟩⟩⟩⟩ (by kernel_rfl)
def aw96:Fact:=⟨71,[(.int .i64 0),(.int .i64 10)],(.int .i64 0),none⟩
theorem Zpr:Zah Try.prog aw96.f aw96.args aw96.r aw96.fr:=Zab (n:=100000) (l:=[]) follows Zac trivial (by kernel_rfl)
def aw97:Fact:=⟨117,[(.int .i64 8)],(.int .i64 5),none⟩
theorem Zqq:Zah Try.prog aw97.f aw97.args aw97.r aw97.fr:=Zab (n:=100000) (l:=[aw71,aw72,aw73,aw74,aw75,aw76,aw77,aw78]) follows Zac ⟨ZaI,⟨ZaK,⟨ZaX,⟨Zba,⟨Zbb,⟨Zbp,⟨ZbF,⟨Zca,trivial⟩⟩⟩⟩⟩⟩⟩⟩ (by kernel_rfl)
def aw98:Fact:=⟨71,[(.int .i64 0),(.int .i64 5)],(.int .i64 0),none⟩
theorem ZoW:Zah Try.prog aw98.f aw98.args aw98.r aw98.fr:=Zab (n:=100000) (l:=[]) follows Zac trivial (by kernel_rfl)
def aw99:Fact:=⟨117,[(.int .i64 7)],(.int .i64 11),none⟩
theorem ZvZ:Zah Try.prog aw99.f aw99.args aw99.r aw99.fr:=Zab (n:=100000) (l:=[aw71,aw72,aw73,aw74,aw75,aw76,aw77]) follows Zac ⟨ZaI,⟨ZaK,⟨ZaX,⟨Zba,⟨Zbb,⟨Zbp,⟨ZbF,trivial⟩⟩⟩⟩⟩⟩⟩ (by kernel_rfl)
def aw100:Fact:=⟨71,[(.int .i64 0),(.int .i64 11)],(.int .i64 0),none⟩
theorem Zny:Zah Try.prog aw100.f aw100.args aw100.r aw100.fr:=Zab (n:=100000) (l:=[]) follows Zac trivial (by kernel_rfl)
def aw101:Fact:=⟨117,[(.int .i64 6)],(.int .i64 12),none⟩
theorem Zm6:Zah Try.prog aw101.f aw101.args aw101.r aw101.fr:=Zab (n:=100000) (l:=[aw71,aw72,aw73,aw74,aw75,aw76]) follows Zac ⟨ZaI,⟨ZaK,⟨ZaX,⟨Zba,⟨Zbb,⟨Zbp,trivial⟩⟩⟩⟩⟩⟩ (by kernel_rfl)
def aw102:Fact:=⟨71,[(.int .i64 0),(.int .i64 12)],(.int .i64 0),none⟩
theorem ZnD:Zah Try.prog aw102.f aw102.args aw102.r aw102.fr:=Zab (n:=100000) (l:=[]) follows Zac trivial (by kernel_rfl)
def aw103:Fact:=⟨117,[(.int .i64 5)],(.int .i64 6),none⟩
theorem Ztt:Zah Try.prog aw103.f aw103.args aw103.r aw103.fr:=Zab (n:=100000) (l:=[aw71,aw72,aw73,aw74,aw75]) follows Zac ⟨ZaI,⟨ZaK,⟨ZaX,⟨Zba,⟨Zbb,trivial⟩⟩⟩⟩⟩ (by kernel_rfl)
def aw104:Fact:=⟨71,[(.int .i64 0),(.int .i64 6)],(.int .i64 0),none⟩
theorem Zm0:Zah Try.prog aw104.f aw104.args aw104.r aw104.fr:=Zab (n:=100000) (l:=[]) follows Zac trivial (by kernel_rfl)
def aw105:Fact:=⟨117,[(.int .i64 4)],(.int .i64 3),none⟩
theorem ZnE:Zah Try.prog aw105.f aw105.args aw105.r aw105.fr:=Zab (n:=100000) (l:=[aw71,aw72,aw73,aw74]) follows Zac ⟨ZaI,⟨ZaK,⟨ZaX,⟨Zba,trivial⟩⟩⟩⟩ (by kernel_rfl)
def aw106:Fact:=⟨71,[(.int .i64 0),(.int .i64 3)],(.int .i64 0),none⟩
theorem Zsj:Zah Try.prog aw106.f aw106.args aw106.r aw106.fr:=Zab (n:=100000) (l:=[]) follows Zac trivial (by kernel_rfl)
def aw107:Fact:=⟨117,[(.int .i64 3)],(.int .i64 8),none⟩
theorem ZsF:Zah Try.prog aw107.f aw107.args aw107.r aw107.fr:=Zab (n:=100000) (l:=[aw71,aw72,aw73]) follows Zac ⟨ZaI,⟨ZaK,⟨ZaX,trivial⟩⟩⟩ (by kernel_rfl)
def aw108:Fact:=⟨71,[(.int .i64 0),(.int .i64 8)],(.int .i64 0),none⟩
theorem Znh:Zah Try.prog aw108.f aw108.args aw108.r aw108.fr:=Zab (n:=100000) (l:=[]) follows Zac trivial (by kernel_rfl)
def aw109:Fact:=⟨117,[(.int .i64 2)],(.int .i64 4),none⟩
theorem Zj9:Zah Try.prog aw109.f aw109.args aw109.r aw109.fr:=Zab (n:=100000) (l:=[aw71,aw72]) follows Zac ⟨ZaI,⟨ZaK,trivial⟩⟩ (by kernel_rfl)
def aw110:Fact:=⟨71,[(.int .i64 1),(.int .i64 4)],(.int .i64 4),none⟩
theorem ZnI:Zah Try.prog aw110.f aw110.args aw110.r aw110.fr:=Zab (n:=100000) (l:=[]) follows Zac trivial (by kernel_rfl)
def aw111:Fact:=⟨117,[(.int .i64 1)],(.int .i64 2),none⟩
theorem ZmY:Zah Try.prog aw111.f aw111.args aw111.r aw111.fr:=Zab (n:=100000) (l:=[aw71]) follows Zac ⟨ZaI,trivial⟩ (by kernel_rfl)
def aw112:Fact:=⟨71,[(.int .i64 0),(.int .i64 2)],(.int .i64 0),none⟩
theorem ZmV:Zah Try.prog aw112.f aw112.args aw112.r aw112.fr:=Zab (n:=100000) (l:=[]) follows Zac trivial (by kernel_rfl)
def aw113:Fact:=⟨117,[(.int .i64 0)],(.int .i64 1),none⟩
theorem ZjF:Zah Try.prog aw113.f aw113.args aw113.r aw113.fr:=Zab (n:=100000) (l:=[]) follows Zac trivial (by kernel_rfl)
def aw114:Fact:=⟨71,[(.int .i64 0),(.int .i64 1)],(.int .i64 0),none⟩
theorem ZnH:Zah Try.prog aw114.f aw114.args aw114.r aw114.fr:=Zab (n:=100000) (l:=[]) follows Zac trivial (by kernel_rfl)
def aw115:Fact:=⟨112,[(.agg (.ints .i64 [0,0,0,0,0,0,0,0,0,0,0,0,1,0,0])),(.int .i64 1)],(.int .i64 4),none⟩
theorem Zrc:Zah Try.prog aw115.f aw115.args aw115.r aw115.fr:=Zab (n:=100000) (l:=[aw85,aw86,aw87,aw88,aw89,aw90,aw91,aw92,aw93,aw94,aw95,aw96,aw97,aw98,aw99,aw100,aw101,aw102,aw103,aw104,aw105,aw106,aw107,aw108,aw109,aw110,aw111,aw112,aw113,aw114]) follows Zac ⟨Zqs,⟨ZlD,⟨Zv7,⟨Zpm,⟨Zqd,⟨Zo9,⟨Zw4,⟨ZlZ,⟨Zo4,⟨ZqT,⟨ZvU,⟨Zpr,⟨Zqq,⟨ZoW,⟨ZvZ,⟨Zny,⟨Zm6,⟨ZnD,⟨Ztt,⟨Zm0,⟨ZnE,⟨Zsj,⟨ZsF,⟨Znh,⟨Zj9,⟨ZnI,⟨ZmY,⟨ZmV,⟨ZjF,⟨ZnH,trivial⟩⟩⟩⟩⟩⟩⟩⟩⟩⟩⟩⟩⟩⟩⟩⟩⟩⟩⟩⟩⟩⟩⟩⟩⟩⟩⟩⟩⟩⟩ (by kernel_rfl)
def aw116:Fact:=⟨117,[(.int .i64 28)],(.int .i64 13),none⟩
theorem Zrm:Zah Try.prog aw116.f aw116.args aw116.r aw116.fr:=Zab (n:=100000) (l:=[aw71,aw72,aw73,aw74,aw75,aw76,aw77,aw78,aw79,aw80,aw81,aw82,aw83]) follows Zac ⟨ZaI,⟨ZaK,⟨ZaX,⟨Zba,⟨Zbb,⟨Zbp,⟨ZbF,⟨Zca,⟨ZcH,⟨Zej,⟨ZfK,⟨ZjV,⟨ZlS,trivial⟩⟩⟩⟩⟩⟩⟩⟩⟩⟩⟩⟩⟩ (by kernel_rfl)
def aw117:Fact:=⟨117,[(.int .i64 26)],(.int .i64 14),none⟩
theorem Zrk:Zah Try.prog aw117.f aw117.args aw117.r aw117.fr:=Zab (n:=100000) (l:=[aw71,aw72,aw73,aw74,aw75,aw76,aw77,aw78,aw79,aw80,aw81]) follows Zac ⟨ZaI,⟨ZaK,⟨ZaX,⟨Zba,⟨Zbb,⟨Zbp,⟨ZbF,⟨Zca,⟨ZcH,⟨Zej,⟨ZfK,trivial⟩⟩⟩⟩⟩⟩⟩⟩⟩⟩⟩ (by kernel_rfl)
def aw118:Fact:=⟨117,[(.int .i64 24)],(.int .i64 10),none⟩
theorem Zr0:Zah Try.prog aw118.f aw118.args aw118.r aw118.fr:=Zab (n:=100000) (l:=[aw71,aw72,aw73,aw74,aw75,aw76,aw77,aw78,aw79]) follows Zac ⟨ZaI,⟨ZaK,⟨ZaX,⟨Zba,⟨Zbb,⟨Zbp,⟨ZbF,⟨Zca,⟨ZcH,trivial⟩⟩⟩⟩⟩⟩⟩⟩⟩ (by kernel_rfl)
def aw119:Fact:=⟨117,[(.int .i64 22)],(.int .i64 11),none⟩
theorem Ztv:Zah Try.prog aw119.f aw119.args aw119.r aw119.fr:=Zab (n:=100000) (l:=[aw71,aw72,aw73,aw74,aw75,aw76,aw77]) follows Zac ⟨ZaI,⟨ZaK,⟨ZaX,⟨Zba,⟨Zbb,⟨Zbp,⟨ZbF,trivial⟩⟩⟩⟩⟩⟩⟩ (by kernel_rfl)
def aw120:Fact:=⟨117,[(.int .i64 20)],(.int .i64 6),none⟩
theorem Ztn:Zah Try.prog aw120.f aw120.args aw120.r aw120.fr:=Zab (n:=100000) (l:=[aw71,aw72,aw73,aw74,aw75]) follows Zac ⟨ZaI,⟨ZaK,⟨ZaX,⟨Zba,⟨Zbb,trivial⟩⟩⟩⟩⟩ (by kernel_rfl)
def aw121:Fact:=⟨117,[(.int .i64 18)],(.int .i64 8),none⟩
theorem Ztp:Zah Try.prog aw121.f aw121.args aw121.r aw121.fr:=Zab (n:=100000) (l:=[aw71,aw72,aw73]) follows Zac ⟨ZaI,⟨ZaK,⟨ZaX,trivial⟩⟩⟩ (by kernel_rfl)
def aw122:Fact:=⟨117,[(.int .i64 16)],(.int .i64 2),none⟩
theorem Zsn:Zah Try.prog aw122.f aw122.args aw122.r aw122.fr:=Zab (n:=100000) (l:=[aw71]) follows Zac ⟨ZaI,trivial⟩ (by kernel_rfl)
def aw123:Fact:=⟨71,[(.int .i64 1),(.int .i64 3)],(.int .i64 3),none⟩
theorem Zq6:Zah Try.prog aw123.f aw123.args aw123.r aw123.fr:=Zab (n:=100000) (l:=[]) follows Zac trivial (by kernel_rfl)
def aw124:Fact:=⟨71,[(.int .i64 0),(.int .i64 4)],(.int .i64 0),none⟩
theorem Zrt:Zah Try.prog aw124.f aw124.args aw124.r aw124.fr:=Zab (n:=100000) (l:=[]) follows Zac trivial (by kernel_rfl)
def aw125:Fact:=⟨112,[(.agg (.ints .i64 [0,0,0,0,0,0,0,0,0,0,0,0,1,0,0])),(.int .i64 2)],(.int .i64 3),none⟩
theorem ZrB:Zah Try.prog aw125.f aw125.args aw125.r aw125.fr:=Zab (n:=100000) (l:=[aw116,aw88,aw117,aw92,aw118,aw96,aw119,aw100,aw120,aw104,aw121,aw108,aw122,aw112,aw85,aw86,aw89,aw90,aw93,aw94,aw97,aw98,aw101,aw102,aw105,aw123,aw109,aw124,aw113,aw114]) follows Zac ⟨Zrm,⟨Zpm,⟨Zrk,⟨ZlZ,⟨Zr0,⟨Zpr,⟨Ztv,⟨Zny,⟨Ztn,⟨Zm0,⟨Ztp,⟨Znh,⟨Zsn,⟨ZmV,⟨Zqs,⟨ZlD,⟨Zqd,⟨Zo9,⟨Zo4,⟨ZqT,⟨Zqq,⟨ZoW,⟨Zm6,⟨ZnD,⟨ZnE,⟨Zq6,⟨Zj9,⟨Zrt,⟨ZjF,⟨ZnH,trivial⟩⟩⟩⟩⟩⟩⟩⟩⟩⟩⟩⟩⟩⟩⟩⟩⟩⟩⟩⟩⟩⟩⟩⟩⟩⟩⟩⟩⟩⟩ (by kernel_rfl)
def aw126:Fact:=⟨75,[(.agg (.ints .i64 [0,0,0,0,0,0,0,0,0,0,0,0,1,0,0])),(.int .i64 1)],(.row 0 0),(some ⟨3,1,(.ints .i64 [4,3])⟩)⟩
theorem ZrY:Zah Try.prog aw126.f aw126.args aw126.r aw126.fr:=Zab (n:=100000) (l:=[aw115,aw125]) follows Zac ⟨Zrc,⟨ZrB,trivial⟩⟩ (by kernel_rfl)
def aw127:Fact:=⟨71,[(.int .i64 2),(.int .i64 1)],(.int .i64 2),none⟩
theorem ZsC:Zah Try.prog aw127.f aw127.args aw127.r aw127.fr:=Zab (n:=100000) (l:=[]) follows Zac trivial (by kernel_rfl)
def aw128:Fact:=⟨71,[(.int .i64 2),(.int .i64 3)],(.int .i64 6),none⟩
theorem ZsO:Zah Try.prog aw128.f aw128.args aw128.r aw128.fr:=Zab (n:=100000) (l:=[]) follows Zac trivial (by kernel_rfl)
def aw129:Fact:=⟨71,[(.int .i64 2),(.int .i64 4)],(.int .i64 8),none⟩
theorem Znu:Zah Try.prog aw129.f aw129.args aw129.r aw129.fr:=Zab (n:=100000) (l:=[]) follows Zac trivial (by kernel_rfl)
def aw130:Fact:=⟨71,[(.int .i64 2),(.int .i64 5)],(.int .i64 10),none⟩
theorem ZsR:Zah Try.prog aw130.f aw130.args aw130.r aw130.fr:=Zab (n:=100000) (l:=[]) follows Zac trivial (by kernel_rfl)
def aw131:Fact:=⟨71,[(.int .i64 2),(.int .i64 6)],(.int .i64 12),none⟩
theorem Zsy:Zah Try.prog aw131.f aw131.args aw131.r aw131.fr:=Zab (n:=100000) (l:=[]) follows Zac trivial (by kernel_rfl)
def aw132:Fact:=⟨71,[(.int .i64 2),(.int .i64 7)],(.int .i64 14),none⟩
theorem ZrP:Zah Try.prog aw132.f aw132.args aw132.r aw132.fr:=Zab (n:=100000) (l:=[]) follows Zac trivial (by kernel_rfl)
def aw133:Fact:=⟨71,[(.int .i64 2),(.int .i64 8)],(.int .i64 3),none⟩
theorem Zrs:Zah Try.prog aw133.f aw133.args aw133.r aw133.fr:=Zab (n:=100000) (l:=[]) follows Zac trivial (by kernel_rfl)
def aw134:Fact:=⟨71,[(.int .i64 2),(.int .i64 9)],(.int .i64 1),none⟩
theorem ZnN:Zah Try.prog aw134.f aw134.args aw134.r aw134.fr:=Zab (n:=100000) (l:=[]) follows Zac trivial (by kernel_rfl)
def aw135:Fact:=⟨128,[(.int .i64 2)],(.int .i64 9),none⟩
theorem ZsB:Zah Try.prog aw135.f aw135.args aw135.r aw135.fr:=Zab (n:=100000) (l:=[aw127,aw72,aw128,aw129,aw130,aw131,aw132,aw133,aw134]) follows Zac ⟨ZsC,⟨ZaK,⟨ZsO,⟨Znu,⟨ZsR,⟨Zsy,⟨ZrP,⟨Zrs,⟨ZnN,trivial⟩⟩⟩⟩⟩⟩⟩⟩⟩ (by kernel_rfl)
def aw136:Fact:=⟨71,[(.int .i64 1),(.int .i64 9)],(.int .i64 9),none⟩
theorem ZrM:Zah Try.prog aw136.f aw136.args aw136.r aw136.fr:=Zab (n:=100000) (l:=[]) follows Zac trivial (by kernel_rfl)
def aw137:Fact:=⟨71,[(.int .i64 4),(.int .i64 9)],(.int .i64 2),none⟩
theorem Zry:Zah Try.prog aw137.f aw137.args aw137.r aw137.fr:=Zab (n:=100000) (l:=[]) follows Zac trivial (by kernel_rfl)
def aw138:Fact:=⟨71,[(.int .i64 9),(.int .i64 4)],(.int .i64 2),none⟩
theorem Zrv:Zah Try.prog aw138.f aw138.args aw138.r aw138.fr:=Zab (n:=100000) (l:=[]) follows Zac trivial (by kernel_rfl)
def aw139:Fact:=⟨71,[(.int .i64 3),(.int .i64 1)],(.int .i64 3),none⟩
theorem Zrq:Zah Try.prog aw139.f aw139.args aw139.r aw139.fr:=Zab (n:=100000) (l:=[]) follows Zac trivial (by kernel_rfl)
def aw140:Fact:=⟨71,[(.int .i64 3),(.int .i64 3)],(.int .i64 5),none⟩
theorem Zr2:Zah Try.prog aw140.f aw140.args aw140.r aw140.fr:=Zab (n:=100000) (l:=[]) follows Zac trivial (by kernel_rfl)
def aw141:Fact:=⟨71,[(.int .i64 3),(.int .i64 4)],(.int .i64 12),none⟩
theorem Zsc:Zah Try.prog aw141.f aw141.args aw141.r aw141.fr:=Zab (n:=100000) (l:=[]) follows Zac trivial (by kernel_rfl)
def aw142:Fact:=⟨71,[(.int .i64 3),(.int .i64 5)],(.int .i64 15),none⟩
theorem ZrK:Zah Try.prog aw142.f aw142.args aw142.r aw142.fr:=Zab (n:=100000) (l:=[]) follows Zac trivial (by kernel_rfl)
def aw143:Fact:=⟨71,[(.int .i64 3),(.int .i64 6)],(.int .i64 10),none⟩
theorem Zq4:Zah Try.prog aw143.f aw143.args aw143.r aw143.fr:=Zab (n:=100000) (l:=[]) follows Zac trivial (by kernel_rfl)
def aw144:Fact:=⟨71,[(.int .i64 3),(.int .i64 7)],(.int .i64 9),none⟩
theorem Zru:Zah Try.prog aw144.f aw144.args aw144.r aw144.fr:=Zab (n:=100000) (l:=[]) follows Zac trivial (by kernel_rfl)
def aw145:Fact:=⟨71,[(.int .i64 3),(.int .i64 8)],(.int .i64 11),none⟩
theorem Zti:Zah Try.prog aw145.f aw145.args aw145.r aw145.fr:=Zab (n:=100000) (l:=[]) follows Zac trivial (by kernel_rfl)
def aw146:Fact:=⟨71,[(.int .i64 3),(.int .i64 9)],(.int .i64 8),none⟩
theorem Zre:Zah Try.prog aw146.f aw146.args aw146.r aw146.fr:=Zab (n:=100000) (l:=[]) follows Zac trivial (by kernel_rfl)
def aw147:Fact:=⟨71,[(.int .i64 3),(.int .i64 10)],(.int .i64 13),none⟩
theorem Zrd:Zah Try.prog aw147.f aw147.args aw147.r aw147.fr:=Zab (n:=100000) (l:=[]) follows Zac trivial (by kernel_rfl)
def aw148:Fact:=⟨71,[(.int .i64 3),(.int .i64 11)],(.int .i64 14),none⟩
theorem Zsk:Zah Try.prog aw148.f aw148.args aw148.r aw148.fr:=Zab (n:=100000) (l:=[]) follows Zac trivial (by kernel_rfl)
def aw149:Fact:=⟨71,[(.int .i64 3),(.int .i64 12)],(.int .i64 7),none⟩
theorem ZsM:Zah Try.prog aw149.f aw149.args aw149.r aw149.fr:=Zab (n:=100000) (l:=[]) follows Zac trivial (by kernel_rfl)
def aw150:Fact:=⟨71,[(.int .i64 3),(.int .i64 13)],(.int .i64 4),none⟩
theorem Zrp:Zah Try.prog aw150.f aw150.args aw150.r aw150.fr:=Zab (n:=100000) (l:=[]) follows Zac trivial (by kernel_rfl)
def aw151:Fact:=⟨71,[(.int .i64 3),(.int .i64 14)],(.int .i64 1),none⟩
theorem ZnJ:Zah Try.prog aw151.f aw151.args aw151.r aw151.fr:=Zab (n:=100000) (l:=[]) follows Zac trivial (by kernel_rfl)
def aw152:Fact:=⟨128,[(.int .i64 3)],(.int .i64 14),none⟩
theorem ZsL:Zah Try.prog aw152.f aw152.args aw152.r aw152.fr:=Zab (n:=100000) (l:=[aw139,aw75,aw140,aw141,aw142,aw143,aw144,aw145,aw146,aw147,aw148,aw149,aw150,aw151]) follows Zac ⟨Zrq,⟨Zbb,⟨Zr2,⟨Zsc,⟨ZrK,⟨Zq4,⟨Zru,⟨Zti,⟨Zre,⟨Zrd,⟨Zsk,⟨ZsM,⟨Zrp,⟨ZnJ,trivial⟩⟩⟩⟩⟩⟩⟩⟩⟩⟩⟩⟩⟩⟩ (by kernel_rfl)
def aw153:Fact:=⟨71,[(.int .i64 11),(.int .i64 14)],(.int .i64 8),none⟩
theorem ZsP:Zah Try.prog aw153.f aw153.args aw153.r aw153.fr:=Zab (n:=100000) (l:=[]) follows Zac trivial (by kernel_rfl)
def aw154:Fact:=⟨71,[(.int .i64 8),(.int .i64 9)],(.int .i64 4),none⟩
theorem ZrS:Zah Try.prog aw154.f aw154.args aw154.r aw154.fr:=Zab (n:=100000) (l:=[]) follows Zac trivial (by kernel_rfl)
def aw155:Fact:=⟨92,[(.agg (.ints .i64 [0,0,0,0,0,0,0,0,0,0,0,0,1,0,0])),(.int .i64 1),(.list (.ints .i64 [13,14]))],(.tup [(.agg (.ints .i64 [0,0,0,0,0,0,0,0,0,0,0,0,1,6,8])),(.bool true)]),none⟩
theorem Zr7:Zah Try.prog aw155.f aw155.args aw155.r aw155.fr:=Zab (n:=100000) (l:=[aw126,aw111,aw113,aw109,aw135,aw134,aw136,aw137,aw110,aw138,aw129,aw152,aw92,aw151,aw153,aw86,aw154]) follows Zac ⟨ZrY,⟨ZmY,⟨ZjF,⟨Zj9,⟨ZsB,⟨ZnN,⟨ZrM,⟨Zry,⟨ZnI,⟨Zrv,⟨Znu,⟨ZsL,⟨ZlZ,⟨ZnJ,⟨ZsP,⟨ZlD,⟨ZrS,trivial⟩⟩⟩⟩⟩⟩⟩⟩⟩⟩⟩⟩⟩⟩⟩⟩⟩ (by kernel_rfl)
def aw156:Fact:=⟨76,[(.int .i64 1),(.list (.ints .i64 [0,0,0,0,0,0,0,0,0,0,0,0,1]))],(.agg (.ints .i64 [0,0,0,0,0,0,0,0,0,0,0,0,1,6,8])),none⟩
theorem Zts:Zah Try.prog aw156.f aw156.args aw156.r aw156.fr:=Zab (n:=100000) (l:=[aw155]) follows Zac ⟨Zr7,trivial⟩ (by kernel_rfl)
def aw157:Fact:=⟨62,[],(.agg (.gen [(.int .i64 3),(.list (.gen [(.list (.ints .i64 [0,1])),(.list (.ints .i64 [1,2]))]))])),none⟩
theorem ZsX:Zah Try.prog aw157.f aw157.args aw157.r aw157.fr:=Zab (n:=100000) (l:=[]) follows Zac trivial (by kernel_rfl)
def aw158:Fact:=⟨91,[(.int .i64 3),(.int .i64 1),(.int .i64 24)],(.bool true),none⟩
theorem Zq3:Zah Try.prog aw158.f aw158.args aw158.r aw158.fr:=Zab (n:=100000) (l:=[]) follows Zac trivial (by kernel_rfl)
def aw159:Fact:=⟨91,[(.int .i64 0),(.int .i64 0),(.int .i64 2)],(.bool true),none⟩
theorem Zss:Zah Try.prog aw159.f aw159.args aw159.r aw159.fr:=Zab (n:=100000) (l:=[]) follows Zac trivial (by kernel_rfl)
def aw160:Fact:=⟨85,[(.bool true),(.int .i64 6)],(.int .i64 0),none⟩
theorem Zr3:Zah Try.prog aw160.f aw160.args aw160.r aw160.fr:=Zab (n:=100000) (l:=[]) follows Zac trivial (by kernel_rfl)
def aw161:Fact:=⟨85,[(.bool true),(.int .i64 9)],(.int .i64 0),none⟩
theorem ZsE:Zah Try.prog aw161.f aw161.args aw161.r aw161.fr:=Zab (n:=100000) (l:=[]) follows Zac trivial (by kernel_rfl)
def aw162:Fact:=⟨91,[(.int .i64 1),(.int .i64 0),(.int .i64 2)],(.bool true),none⟩
theorem ZrG:Zah Try.prog aw162.f aw162.args aw162.r aw162.fr:=Zab (n:=100000) (l:=[]) follows Zac trivial (by kernel_rfl)
def aw163:Fact:=⟨91,[(.int .i64 2),(.int .i64 0),(.int .i64 2)],(.bool true),none⟩
theorem Zrj:Zah Try.prog aw163.f aw163.args aw163.r aw163.fr:=Zab (n:=100000) (l:=[]) follows Zac trivial (by kernel_rfl)
def aw164:Fact:=⟨132,[(.agg (.gen [(.int .i64 3),(.list (.gen [(.list (.ints .i64 [0,1])),(.list (.ints .i64 [1,2]))]))]))],(.tup [(.int .i64 0),(.int .i64 0)]),none⟩
theorem ZrD:Zah Try.prog aw164.f aw164.args aw164.r aw164.fr:=Zab (n:=100000) (l:=[aw158,aw9,aw13,aw69,aw159,aw160,aw161,aw162,aw163]) follows Zac ⟨Zq3,⟨Zhh,⟨Zqa,⟨Zkd,⟨Zss,⟨Zr3,⟨ZsE,⟨ZrG,⟨Zrj,trivial⟩⟩⟩⟩⟩⟩⟩⟩⟩ (by kernel_rfl)
def aw165:Fact:=⟨120,[(.agg (.gen [(.int .i64 3),(.list (.gen [(.list (.ints .i64 [0,1])),(.list (.ints .i64 [1,2]))]))]))],(.int .i64 0),none⟩
theorem ZrE:Zah Try.prog aw165.f aw165.args aw165.r aw165.fr:=Zab (n:=100000) (l:=[aw164]) follows Zac ⟨ZrD,trivial⟩ (by kernel_rfl)
def aw166:Fact:=⟨91,[(.int .i64 1),(.int .i64 0),(.int .i64 1)],(.bool true),none⟩
theorem Ztx:Zah Try.prog aw166.f aw166.args aw166.r aw166.fr:=Zab (n:=100000) (l:=[]) follows Zac trivial (by kernel_rfl)
def aw167:Fact:=⟨111,[(.int .i64 1),(.eptr (.int .i64 0) 0),(.eptr (.int .i64 1) 0)],(.bool false),none⟩
theorem ZsQ:Zah Try.prog aw167.f aw167.args aw167.r aw167.fr:=Zab (n:=100000) (l:=[aw166]) follows Zac ⟨Ztx,trivial⟩ (by kernel_rfl)
def aw168:Fact:=⟨91,[(.int .i64 0),(.int .i64 0),(.int .i64 1)],(.bool true),none⟩
theorem ZsJ:Zah Try.prog aw168.f aw168.args aw168.r aw168.fr:=Zab (n:=100000) (l:=[]) follows Zac trivial (by kernel_rfl)
def aw169:Fact:=⟨111,[(.int .i64 0),(.eptr (.int .i64 0) 0),(.eptr (.int .i64 1) 0)],(.bool false),none⟩
theorem Zro:Zah Try.prog aw169.f aw169.args aw169.r aw169.fr:=Zab (n:=100000) (l:=[aw168]) follows Zac ⟨ZsJ,trivial⟩ (by kernel_rfl)
def aw170:Fact:=⟨123,[(.list (.ints .i64 [1,0,0])),(.fn 111 [(.eptr (.int .i64 0) 0),(.eptr (.int .i64 1) 0)])],(.int .i64 (-1)),none⟩
theorem ZrV:Zah Try.prog aw170.f aw170.args aw170.r aw170.fr:=Zab (n:=100000) (l:=[aw167,aw169]) follows Zac ⟨ZsQ,⟨Zro,trivial⟩⟩ (by kernel_rfl)
def aw171:Fact:=⟨110,[(.list (.ints .i64 [1,0,0])),(.fn 111 [(.eptr (.int .i64 0) 0),(.eptr (.int .i64 1) 0)])],(.bool false),none⟩
theorem ZsY:Zah Try.prog aw171.f aw171.args aw171.r aw171.fr:=Zab (n:=100000) (l:=[aw170]) follows Zac ⟨ZrV,trivial⟩ (by kernel_rfl)
def aw172:Fact:=⟨70,[(.list (.ints .i64 [1,0,0])),(.int .i64 0),(.int .i64 1)],(.int .i64 0),none⟩
theorem Zsd:Zah Try.prog aw172.f aw172.args aw172.r aw172.fr:=Zab (n:=100000) (l:=[aw171,aw9]) follows Zac ⟨ZsY,⟨Zhh,trivial⟩⟩ (by kernel_rfl)
def aw173:Fact:=⟨103,[(.agg (.gen [(.int .i64 3),(.list (.gen [(.list (.ints .i64 [0,1])),(.list (.ints .i64 [1,2]))]))])),(.list (.ints .i64 [1,0,0]))],(.int .i64 0),none⟩
theorem Zsl:Zah Try.prog aw173.f aw173.args aw173.r aw173.fr:=Zab (n:=100000) (l:=[aw165,aw12,aw172,aw21]) follows Zac ⟨ZrE,⟨Zmy,⟨Zsd,⟨ZpB,trivial⟩⟩⟩⟩ (by kernel_rfl)
def aw174:Fact:=⟨91,[(.int .i64 5),(.int .i64 0),(.int .i64 30)],(.bool true),none⟩
theorem Zsx:Zah Try.prog aw174.f aw174.args aw174.r aw174.fr:=Zab (n:=100000) (l:=[]) follows Zac trivial (by kernel_rfl)
def aw175:Fact:=⟨104,[(.list (.ints .i64 [1,0,0]))],(.row 0 0),(some ⟨3,1,(.ints .i64 [1,0,0])⟩)⟩
theorem Znq:Zah Try.prog aw175.f aw175.args aw175.r aw175.fr:=Zmn _ (by decide)
def aw176:Fact:=⟨105,[(.agg (.gen [(.int .i64 3),(.list (.gen [(.list (.ints .i64 [0,1])),(.list (.ints .i64 [1,2]))]))])),(.list (.ints .i64 [1,0,0]))],(.row 0 0),(some ⟨3,1,(.ints .i64 [0])⟩)⟩
theorem Zm4:Zah Try.prog aw176.f aw176.args aw176.r aw176.fr:=Zab (n:=100000) (l:=[]) follows Zac trivial (by kernel_rfl)
def aw177:Fact:=⟨133,[(.list (.ints .i64 [0])),(.int .i64 0)],(.int .i64 0),none⟩
theorem ZrF:Zah Try.prog aw177.f aw177.args aw177.r aw177.fr:=Zab (n:=100000) (l:=[]) follows Zac trivial (by kernel_rfl)
def aw178:Fact:=⟨121,[(.list (.ints .i64 [0])),(.int .i64 0)],(.bool true),none⟩
theorem ZsS:Zah Try.prog aw178.f aw178.args aw178.r aw178.fr:=Zab (n:=100000) (l:=[aw177]) follows Zac ⟨ZrF,trivial⟩ (by kernel_rfl)
def aw179:Fact:=⟨133,[(.list (.ints .i64 [0])),(.int .i64 1)],(.int .i64 (-1)),none⟩
theorem ZsU:Zah Try.prog aw179.f aw179.args aw179.r aw179.fr:=Zab (n:=100000) (l:=[]) follows Zac trivial (by kernel_rfl)
def aw180:Fact:=⟨121,[(.list (.ints .i64 [0])),(.int .i64 1)],(.bool false),none⟩
theorem ZrJ:Zah Try.prog aw180.f aw180.args aw180.r aw180.fr:=Zab (n:=100000) (l:=[aw179]) follows Zac ⟨ZsU,trivial⟩ (by kernel_rfl)
def aw181:Fact:=⟨106,[(.agg (.gen [(.int .i64 3),(.list (.gen [(.list (.ints .i64 [0,1])),(.list (.ints .i64 [1,2]))]))])),(.list (.ints .i64 [1,0,0]))],(.row 0 0),(some ⟨3,1,(.ints .i64 [0,0,0])⟩)⟩
theorem Zs5:Zah Try.prog aw181.f aw181.args aw181.r aw181.fr:=Zab (n:=100000) (l:=[aw176,aw178,aw180,aw175]) follows Zac ⟨Zm4,⟨ZsS,⟨ZrJ,⟨Znq,trivial⟩⟩⟩⟩ (by kernel_rfl)
def aw182:Fact:=⟨105,[(.agg (.gen [(.int .i64 3),(.list (.gen [(.list (.ints .i64 [0,1])),(.list (.ints .i64 [1,2]))]))])),(.list (.ints .i64 [0,0,0]))], .nils,none⟩
theorem ZrU:Zah Try.prog aw182.f aw182.args aw182.r aw182.fr:=Zab (n:=100000) (l:=[]) follows Zac trivial (by kernel_rfl)
def aw183:Fact:=⟨61,[(.agg (.gen [(.int .i64 3),(.list (.gen [(.list (.ints .i64 [0,1])),(.list (.ints .i64 [1,2]))]))])),(.list (.ints .i64 [1,0,0])),(.int .i64 5)],(.tup [(.row 0 0),(.int .i64 1),(.int .i64 0)]),(some ⟨3,1,(.ints .i64 [0,0,0])⟩)⟩
theorem Zsi:Zah Try.prog aw183.f aw183.args aw183.r aw183.fr:=Zab (n:=100000) (l:=[aw173,aw174,aw9,aw69,aw175,aw176,aw181,aw182]) follows Zac ⟨Zsl,⟨Zsx,⟨Zhh,⟨Zkd,⟨Znq,⟨Zm4,⟨Zs5,⟨ZrU,trivial⟩⟩⟩⟩⟩⟩⟩⟩ (by kernel_rfl)
def aw184:Fact:=⟨83,[(.list (.ints .i64 [100000])),(.int .i64 4)],(.row 0 0),(some ⟨3,1,(.ints .i64 [100000,100000,100000,100000])⟩)⟩
theorem ZrX:Zah Try.prog aw184.f aw184.args aw184.r aw184.fr:=Zab (n:=100000) (l:=[aw26]) follows Zac ⟨ZqU,trivial⟩ (by kernel_rfl)
def aw185:Fact:=⟨81,[(.int .i64 0),(.int .i64 1),(.eptr (.agg (.gen [(.int .i64 2),(.int .i64 7),(.int .i64 5)])) 0)],(.tup [(.int .i64 2),(.int .i64 2)]),none⟩
theorem ZsD:Zah Try.prog aw185.f aw185.args aw185.r aw185.fr:=Zab (n:=100000) (l:=[aw47]) follows Zac ⟨Zo0,trivial⟩ (by kernel_rfl)
def aw186:Fact:=⟨81,[(.int .i64 1),(.int .i64 0),(.eptr (.agg (.gen [(.int .i64 2),(.int .i64 7),(.int .i64 5)])) 0)],(.tup [(.int .i64 0),(.int .i64 2)]),none⟩
theorem Zse:Zah Try.prog aw186.f aw186.args aw186.r aw186.fr:=Zab (n:=100000) (l:=[aw35]) follows Zac ⟨Zpc,trivial⟩ (by kernel_rfl)
def aw187:Fact:=⟨81,[(.int .i64 1),(.int .i64 1),(.eptr (.agg (.gen [(.int .i64 2),(.int .i64 7),(.int .i64 5)])) 0)],(.tup [(.int .i64 2),(.int .i64 0)]),none⟩
theorem Zso:Zah Try.prog aw187.f aw187.args aw187.r aw187.fr:=Zab (n:=100000) (l:=[aw50]) follows Zac ⟨Zqy,trivial⟩ (by kernel_rfl)
def aw188:Fact:=⟨81,[(.int .i64 2),(.int .i64 0),(.eptr (.agg (.gen [(.int .i64 2),(.int .i64 7),(.int .i64 5)])) 0)],(.tup [(.int .i64 1),(.int .i64 1)]),none⟩
theorem Ztm:Zah Try.prog aw188.f aw188.args aw188.r aw188.fr:=Zab (n:=100000) (l:=[aw39]) follows Zac ⟨ZqO,trivial⟩ (by kernel_rfl)
def aw189:Fact:=⟨81,[(.int .i64 2),(.int .i64 1),(.eptr (.agg (.gen [(.int .i64 2),(.int .i64 7),(.int .i64 5)])) 0)],(.tup [(.int .i64 3),(.int .i64 1)]),none⟩
theorem ZrL:Zah Try.prog aw189.f aw189.args aw189.r aw189.fr:=Zab (n:=100000) (l:=[aw53]) follows Zac ⟨ZqH,trivial⟩ (by kernel_rfl)
def aw190:Fact:=⟨81,[(.int .i64 3),(.int .i64 0),(.eptr (.agg (.gen [(.int .i64 2),(.int .i64 7),(.int .i64 5)])) 0)],(.tup [(.int .i64 1),(.int .i64 1)]),none⟩
theorem Zsg:Zah Try.prog aw190.f aw190.args aw190.r aw190.fr:=Zab (n:=100000) (l:=[aw42]) follows Zac ⟨ZqG,trivial⟩ (by kernel_rfl)
def aw191:Fact:=⟨81,[(.int .i64 3),(.int .i64 1),(.eptr (.agg (.gen [(.int .i64 2),(.int .i64 7),(.int .i64 5)])) 0)],(.tup [(.int .i64 3),(.int .i64 1)]),none⟩
theorem Ztq:Zah Try.prog aw191.f aw191.args aw191.r aw191.fr:=Zab (n:=100000) (l:=[aw56]) follows Zac ⟨ZpH,trivial⟩ (by kernel_rfl)
def aw192:Fact:=⟨32,[(.agg (.gen [(.int .i64 2),(.int .i64 7),(.int .i64 5)]))],(.tup [(.int .i64 5),(.int .i64 0)]),none⟩
theorem Zs2:Zah Try.prog aw192.f aw192.args aw192.r aw192.fr:=Zab (n:=100000) (l:=[aw11,aw184,aw185,aw186,aw187,aw188,aw189,aw190,aw191]) follows Zac ⟨ZqV,⟨ZrX,⟨ZsD,⟨Zse,⟨Zso,⟨Ztm,⟨ZrL,⟨Zsg,⟨Ztq,trivial⟩⟩⟩⟩⟩⟩⟩⟩⟩ (by kernel_rfl)
def aw193:Fact:=⟨17,[(.list (.ints .i64 [1,0])),(.list (.ints .i64 [1,0]))],(.bool true),none⟩
theorem ZrR:Zah Try.prog aw193.f aw193.args aw193.r aw193.fr:=Zab (n:=100000) (l:=[]) follows Zac trivial (by kernel_rfl)
def aw194:Fact:=⟨17,[(.list (.ints .i64 [0,0,0])),(.list (.ints .i64 [0,0,0]))],(.bool true),none⟩
theorem Zr1:Zah Try.prog aw194.f aw194.args aw194.r aw194.fr:=Zab (n:=100000) (l:=[]) follows Zac trivial (by kernel_rfl)
def aw195:Fact:=⟨12,[],(.bool true),none⟩
theorem Ztk:Zah Try.prog aw195.f aw195.args aw195.r aw195.fr:=Zab (n:=100000) (l:=[aw0,aw1,aw58,aw59,aw61,aw70,aw69,aw156,aw157,aw183,aw192,aw193,aw194]) follows Zac ⟨ZAk,⟨Zzd,⟨ZwV,⟨ZvT,⟨ZuJ,⟨Zvt,⟨Zkd,⟨Zts,⟨ZsX,⟨Zsi,⟨Zs2,⟨ZrR,⟨Zr1,trivial⟩⟩⟩⟩⟩⟩⟩⟩⟩⟩⟩⟩⟩ (by kernel_rfl)
end Go.Proofs.Ytklbmkllepkjcaa
/- Contracts as a list. No condition. -/
namespace Go.Proofs.Ytklbmkllepkjcaa
def k12:Ctr:=⟨12,0,fun _ a=>match a with |[]=>some (true, .bool true,none) |_=>none⟩
theorem ZAI:k12.OK Try.prog:=fun pa args r fr h=>by
 simp only[k12]at h
 split at h
 ·cases h
  exact Ztk
 ·cases h
def J8:List Ctr:=[k12]++J7
theorem ZCQ:Zaz Try.prog J8:=⟨ZAI,ZCR⟩
end Go.Proofs.Ytklbmkllepkjcaa
/- Contracts as a list. No condition. -/
namespace Go.Proofs.Ytklbmkllepkjcaa
section
variable {C:Ctx}(hC:C.P=Try.prog)
include hC
end
theorem ZeK{x:Int}{l:List Int}(h:Zaq (x::l)=0):x=0∧Zaq l=0:=by
 rw[Zaq]at h
 split at h
 ·exact⟨by assumption,h⟩
 ·contradiction
section
variable (m p q:Int)
def wt(s b:Int):Int:=oS m p s b+oS m q s b
def rx(s:Nat)(b:Int)(x:Int×List Int):Int×List Int:=if nxS m s b=0 then(min x.1 (x.2.getD s 0+wt m p q s b),x.2)else(x.1,x.2.set (nxS m s b).toNat (min (x.2.getD (nxS m s b).toNat 0) (x.2.getD s 0+wt m p q s b)))
end
structure OkX (m:Int) (x:Int×List Int):Prop where
 b:0≤x.1∧x.1≤100000
 l:x.2.length=stS m
 r:∀j,0≤x.2.getD j 0∧x.2.getD j 0≤100000
section
variable {C:Ctx}(hC:C.P=Try.prog)(m p q:Int)(hv:Zq5 m p q=0)
include hC hv
end
def J9:List Ctr:=J8
theorem ZEm:Zaz Try.prog J9:=ZCQ
end Go.Proofs.Ytklbmkllepkjcaa
/- Contracts as a list. No condition. -/
namespace Go.Proofs.Ytklbmkllepkjcaa
@[simp] theorem ZET (l:List AV):std.lenA l=l.length:=rfl
@[simp] theorem ZEr (l:List AV) (j:Nat):std.nthA l j=l.getD j .top:=rfl
def pR(ps:List AV)(t:Nat):List Int:=AV.toIs (ps.getD t .top)
section
variable (m p q:Int)(so:List Int)(ps:List AV)
end
structure OkP (m:Int) (so:List Int) (ps:List AV):Prop where
 n:ps.length=Zo6 so+1
 l:∀t,t≤Zo6 so→(pR ps t).length=stS m
 r:∀t j,t≤Zo6 so→ -1000000≤(pR ps t).getD j 0∧(pR ps t).getD j 0≤1000000
theorem Zyv{l:List Int}{a b:Int}(h:ZaU l a b=0)(h0:a≤0∧0≤b)(j:Nat):a≤l.getD j 0∧l.getD j 0≤b:=by
 unfold ZaU at h
 split at h
 ·rename_i hall
  by_cases hk:j<l.length
  ·have:=List.all_eq_true.1 hall _ (ZsT (d:=0) hk)
   simpa[Zan]using of_decide_eq_true this
  ·rw[List.getD_eq_getElem?_getD,List.getElem?_eq_none (by omega)];simpa using h0
 ·cases h
section
variable {C:Ctx}(hC:C.P=Try.prog)(m p q:Int)(so:List Int)(ps:List AV)(h:OkC m p q so)(hp:OkP m so ps)
include hC h hp
end
section
variable {C:Ctx}(hC:C.P=Try.prog)(m p q:Int)(so:List Int)(ps:List AV)(h:OkC m p q so)(hn:ps.length=Zo6 so+1)(hrl:∀t,(pR ps t).length≤1000000)
include hC h hn hrl
end
def rlB(ps:List AV):Prop:=∀t,(pR ps t).length≤1000000
section
variable {C:Ctx}(hC:C.P=Try.prog)(m p q:Int)(so:List Int)(ps:List AV)(h:OkC m p q so)(hp:OkP m so ps)
include hC h hp
end
theorem Zp9{l:List Int}{a b:Int}(h:∀j,j<l.length→Zan (l.getD j 0) a b=true):ZaU l a b=0:=by
 unfold ZaU
 rw[if_pos]
 refine List.all_eq_true.2 fun x hx=>?_
 obtain⟨j,hj,rfl⟩:=List.mem_iff_getElem.1 hx
 have:=h j hj
 rwa[List.getD_eq_getElem?_getD,List.getElem?_eq_getElem hj]at this
section
variable {C:Ctx}(hC:C.P=Try.prog)(m p q:Int)(so:List Int)(ps:List AV)(h:OkC m p q so)(hn:ps.length=Zo6 so+1)
include hC h hn
end
section
variable {C:Ctx}(hC:C.P=Try.prog)(ps:List AV)(hl:ps.length≤1000000)(hrl:rlB ps)
include hC hl hrl
end
def Ja:List Ctr:=J9
theorem ZDw:Zaz Try.prog Ja:=ZEm
end Go.Proofs.Ytklbmkllepkjcaa
/- Contracts as a list. No condition. -/
namespace Go.Proofs.Ytklbmkllepkjcaa
def k14v:Ctr:=⟨14,0,fun _ a=>match a with |[.list (.ints .i64 xs)]=>some (decide (xs.length≤1000000), .list (.ints .i64 xs),ZuT) |_=>none⟩
theorem Zv2:k14v.OK Try.prog:=fun pa args r fr h=>by
 simp only[k14v]at h
 split at h
 ·simp only[Option.some.injEq,Prod.mk.injEq,decide_eq_true_eq]at h
  obtain⟨h0,rfl,rfl⟩:=h
  exact Zwl (Zky _ h0) rfl rfl
 ·cases h
def Jb:List Ctr:=[k14v]++Ja
theorem ZEg:Zaz Try.prog Jb:=⟨Zv2,ZDw⟩
end Go.Proofs.Ytklbmkllepkjcaa
/- The field of 16 elements. No condition. -/
namespace Go.Proofs.Ytklbmkllepkjcaa
def xt(a:Nat):Nat:=if a<8 then 2*a else(2*a) ^^^ 19
def ZaB(a b:Nat):Nat:=(if b%2=1 then a else 0) ^^^ (if b/2%2=1 then xt a else 0) ^^^ (if b/4%2=1 then xt (xt a)else 0) ^^^ (if b/8%2=1 then xt (xt (xt a))else 0)
def Zb1:Nat→Nat
 |0=>1
 |n+1=>ZaB (Zb1 n) 2
def Zgs(a:Nat):Nat:=((List.range 16).find? fun b=>ZaB a b==1).getD 0
def Zqk(p:Nat→Nat→Bool):Bool:=(List.range 16).all fun a=>(List.range 16).all fun b=>p a b
theorem Zcc{p:Nat→Nat→Bool}(h:Zqk p=true){a b:Nat}(ha:a<16)(hb:b<16):p a b=true:=
 List.all_eq_true.1 (List.all_eq_true.1 h a (List.mem_range.2 ha)) b (List.mem_range.2 hb)
def ZB2(p:Nat→Nat→Nat→Bool):Bool:=(List.range 16).all fun a=>(List.range 16).all fun b=>(List.range 16).all fun c=>p a b c
theorem ZqW{p:Nat→Nat→Nat→Bool}(h:ZB2 p=true){a b c:Nat}(ha:a<16)(hb:b<16)(hc:c<16):p a b c=true:=
 List.all_eq_true.1 (List.all_eq_true.1 (List.all_eq_true.1 h a (List.mem_range.2 ha)) b (List.mem_range.2 hb)) c (List.mem_range.2 hc)
theorem ZdO{a b:Nat}(ha:a<16)(hb:b<16):ZaB a b<16:=by
 have h:Zqk (fun a b=>decide (ZaB a b<16))=true:=by kernel_rfl
 exact of_decide_eq_true (Zcc h ha hb)
theorem ZbX{a b:Nat}(ha:a<16)(hb:b<16):ZaB a b=ZaB b a:=by
 have h:Zqk (fun a b=>decide (ZaB a b=ZaB b a))=true:=by kernel_rfl
 exact of_decide_eq_true (Zcc h ha hb)
theorem Zb9{a b c:Nat}(ha:a<16)(hb:b<16)(hc:c<16):ZaB (ZaB a b) c=ZaB a (ZaB b c):=by
 have h:ZB2 (fun a b c=>decide (ZaB (ZaB a b) c=ZaB a (ZaB b c)))=true:=by kernel_rfl
 exact of_decide_eq_true (ZqW h ha hb hc)
theorem Zhq{a b c:Nat}(ha:a<16)(hb:b<16)(hc:c<16):ZaB (a ^^^ b) c=ZaB a c ^^^ ZaB b c:=by
 have h:ZB2 (fun a b c=>decide (ZaB (a ^^^ b) c=ZaB a c ^^^ ZaB b c))=true:=by kernel_rfl
 exact of_decide_eq_true (ZqW h ha hb hc)
theorem ZcY{a:Nat}(ha:a<16):ZaB a 0=0:=by
 have h:Zqk (fun a _=>decide (ZaB a 0=0))=true:=by kernel_rfl
 exact of_decide_eq_true (Zcc h ha (b:=0) (by omega))
theorem Znx{a:Nat}(ha:a<16):ZaB a 1=a:=by
 have h:Zqk (fun a _=>decide (ZaB a 1=a))=true:=by kernel_rfl
 exact of_decide_eq_true (Zcc h ha (b:=0) (by omega))
theorem Zdu{a b:Nat}(ha:a<16)(hb:b<16)(h0:ZaB a b=0):a=0∨b=0:=by
 have h:Zqk (fun a b=>decide (ZaB a b=0→a=0∨b=0))=true:=by kernel_rfl
 exact of_decide_eq_true (Zcc h ha hb) h0
theorem ZzH{a:Nat}(ha:a<16)(h0:a≠0):Zgs a<16∧ZaB a (Zgs a)=1:=by
 have h:Zqk (fun a _=>decide (a≠0→Zgs a<16∧ZaB a (Zgs a)=1))=true:=by kernel_rfl
 exact of_decide_eq_true (Zcc h ha (b:=0) (by omega)) h0
theorem Zgx{a b:Nat}(ha:a<16)(hb:b<16):a ^^^ b<16:=Nat.xor_lt_two_pow (n:=4) ha hb
theorem Zeq:∀n,Zb1 n<16
 |0=>by decide
 |n+1=>ZdO (Zeq n) (by decide)
theorem ZCZ:Zb1 15=1:=by decide
theorem Zqg:∀m n,Zb1 (m+n)=ZaB (Zb1 m) (Zb1 n)
 |m,0=>(Znx (Zeq m)).symm
 |m,n+1=>by rw[←Nat.add_assoc,Zb1,Zqg m n,Zb1,Zb9 (Zeq m) (Zeq n) (by decide)]
theorem ZmZ(n:Nat):Zb1 n=Zb1 (n%15):=by
 have h:∀q r,Zb1 (15*q+r)=Zb1 r:=by
  intro q
  induction q with
  |zero=>intro r;rw[Nat.mul_zero,Nat.zero_add]
  |succ q ih=>
   intro r
   rw[show 15*(q+1)+r=15*q+(15+r) by omega,ih,Zqg,ZCZ,ZbX (by decide) (Zeq r),Znx (Zeq r)]
 conv=>lhs;rw[←Nat.div_add_mod n 15]
 exact h _ _
theorem ZCF(n:Nat):Zb1 n≠0:=by
 have h:∀r,r<15→Zb1 r≠0:=by decide
 rw[ZmZ];exact h _ (Nat.mod_lt _ (by decide))
theorem Zzx{i j:Nat}(hi:i<15)(hj:j<15)(h:Zb1 i=Zb1 j):i=j:=by
 have k:∀i,i<15→∀j,j<15→Zb1 i=Zb1 j→i=j:=by decide
 exact k i hi j hj h
def gM(a b:Int):Int:=((ZaB a.toNat b.toNat:Nat):Int)
def gI(a:Int):Int:=((Zgs a.toNat:Nat):Int)
def elB(a:Int):Bool:=decide (0≤a∧a≤15)
end Go.Proofs.Ytklbmkllepkjcaa
/- Contracts as a list. No condition. -/
namespace Go.Proofs.Ytklbmkllepkjcaa
theorem Zkh(m:Nat)(hm:m<2^32):(BitVec.ofInt 64 (m:Int)).toNat=m:=by
 rw[BitVec.ofInt_natCast,BitVec.toNat_ofNat];exact Nat.mod_eq_of_lt (by omega)
theorem Zb6{r k:Nat}(hr:r<2^32)(hk:k<2^32):std.bits .xor .i64 (r:Int) (k:Int)=((r ^^^ k:Nat):Int):=by
 show IntKind.i64.wrap ((BitVec.ofInt 64 (r:Int) ^^^ BitVec.ofInt 64 (k:Int)).toNat:Int)=_
 rw[BitVec.toNat_xor,Zkh r hr,Zkh k hk]
 have:r ^^^ k<2^32:=Nat.xor_lt_two_pow hr hk
 rw[IntKind.wrap_i64]
 omega
theorem Zhb{r:Nat}(hr:r<2^32):std.bits .and .i64 (r:Int) 1=((r%2:Nat):Int):=by
 show IntKind.i64.wrap ((BitVec.ofInt 64 (r:Int) &&& BitVec.ofInt 64 ((1:Nat):Int)).toNat:Int)=_
 rw[BitVec.toNat_and,Zkh r hr,Zkh 1 (by omega),Nat.and_one_is_mod,IntKind.wrap_i64]
 omega
def ZvJ:Nat→Nat→Nat→Nat→Nat
 |0,_,_,o=>o
 |k+1,a,b,o=>if b=0 then o else ZvJ k (xt a) (b/2) (if b%2=1 then o ^^^ a else o)
theorem Zw5{a b:Nat}(ha:a<16)(hb:b<16):ZvJ 4 a b 0=ZaB a b:=by
 have h:Zqk (fun a b=>decide (ZvJ 4 a b 0=ZaB a b))=true:=by kernel_rfl
 exact of_decide_eq_true (Zcc h ha hb)
theorem ZEc{a:Nat}(ha:a<16):xt a<16:=by
 have h:Zqk (fun a _=>decide (xt a<16))=true:=by kernel_rfl
 exact of_decide_eq_true (Zcc h ha (b:=0) (by omega))
section
variable {C:Ctx}(hC:C.P=Try.prog)
include hC
theorem L71:∀(k a b o:Nat),a<16→b<2^k→k≤4→o<16→Ev C (Zg7 a b o) (Zfa a b o) (Za9 71 (.int .i64 ((ZvJ k a b o:Nat):Int)) none):=by
 intro k
 induction k with
 |zero=>
  intro a b o ha hb _ ho
  have:b=0:=by omega
  subst this
  refine tgo hC ZcI Zio ?_
  simp[ZdE,ZvJ]
 |succ k ih=>
  intro a b o ha hb hk ho
  refine tgo hC ZcI Zio ?_
  by_cases h0:b=0
  ·subst h0;simp[ZdE,ZvJ]
  ·have hb16:b<16:=by have:=Nat.pow_le_pow_right (show 0<2 by omega) hk;omega
   have hb2:b/2<2^k:=by rw[Nat.pow_succ]at hb;omega
   have e1:=Zhb (r:=b) (by omega)
   have e2:=Zb6 (r:=o) (k:=a) (by omega) (by omega)
   have e3:=Zb6 (r:=2*a) (k:=19) (by omega) (by omega)
   have e4:(b:Int).fdiv 2=((b/2:Nat):Int):=by rw[Int.fdiv_eq_ediv_of_nonneg _ (by omega)];rfl
   have e5:(a:Int)*2=((2*a:Nat):Int):=by omega
   have hx:=ZEc ha
   have ho2:(if b%2=1 then o ^^^ a else o)<16:=by split;exact Zgx ho ha;exact ho
   have i:=ih (xt a) (b/2) (if b%2=1 then o ^^^ a else o) hx hb2 (by omega) ho2
   rw[ZvJ,if_neg h0]
   have hp:(0:Int)<(b:Int):=by omega
   have e6:((19:Nat):Int)=19:=rfl
   rw[e6]at e3
   unfold xt at i⊢
   have e7:∀x:Nat,(((x:Nat):Int)=1)=(x=1):=fun x=>by simp;omega
   have e8:((16:Int)≤((2*a:Nat):Int))=¬(a<8):=by simp;omega
   simp only[ZdE,ZEE,ZEW,ZCX,Zbh,Zw7,Zvy,e1,e2,Int.toNat_one,Int.pow_one,e4,e5,e3,e7,e8,Zvg,ZuY,decide_eq_true hp,if_true]
   have hA:AllT [Zae (Zae (decide ((0:Int)≤1)) (Nat.blt 1 64)) (std.inR .i64 ((2*a:Nat):Int))]:=by simp;omega
   have hB:AllT [Zae (decide ((0:Int)≤1)) (Nat.blt 1 64)]:=by simp
   by_cases h1:b%2=1<;>by_cases h2:a<8<;>simp only[h1,h2,decide_true,decide_false,not_true,not_false,if_true,if_false,Bool.false_eq_true]at i⊢
   all_goals first |exact⟨hA,hB,i⟩ |(refine ⟨hA,?_⟩;rw[if_pos (by simp)];exact⟨hB,i⟩)
end
def Zq8(a b:Nat):Nat→Nat→Nat→Nat
 |0,_,o=>o
 |k+1,n,o=>Zq8 a b k (n+1) (if b/2^n%2=1 then o ^^^ (a*2^n)else o)
def ZuB:Nat→Nat→Nat
 |0,o=>o
 |k+1,o=>ZuB k (if o/2^(k+4)%2=1 then o ^^^ (19*2^k)else o)
theorem ZuV{a b:Nat}(ha:a<16)(hb:b<16):ZuB 3 (Zq8 a b 4 0 0)=ZaB a b∧Zq8 a b 4 0 0<128:=by
 have h:Zqk (fun a b=>decide (ZuB 3 (Zq8 a b 4 0 0)=ZaB a b∧Zq8 a b 4 0 0<128))=true:=by kernel_rfl
 exact of_decide_eq_true (Zcc h ha hb)
section
variable {C:Ctx}(hC:C.P=Try.prog)
include hC
theorem D22:∀(k o:Nat),k≤3→o<128→Ev C (Zhs o ((k:Int)+3)) (Zfd o ((k:Int)+3)) (Za9 22 (.int .i64 ((ZuB k o:Nat):Int)) none):=by
 intro k
 induction k with
 |zero=>
  intro o _ ho
  refine tgo hC ZcI Ziw ?_
  simp[ZfY,ZuB]
 |succ k ih=>
  intro o hk ho
  refine tgo hC ZcI Ziw ?_
  have k1:(((k+1:Nat):Int)+3).toNat=k+4:=by omega
  have k2:(((k+1:Nat):Int)+3-4).toNat=k:=by omega
  have k3:((k+1:Nat):Int)+3-1=(k:Int)+3:=by omega
  have hp:(2:Int)^(k+4)=((2^(k+4):Nat):Int):=by rw[Int.natCast_pow];rfl
  have hp2:(19:Int)*2^k=((19*2^k:Nat):Int):=by rw[Int.natCast_mul,Int.natCast_pow];rfl
  have hk3:k=0∨k=1∨k=2:=by omega
  have h19:19*2^k<128:=by rcases hk3 with rfl |rfl |rfl<;>decide
  have e4:(o:Int).fdiv (2^(k+4))=((o/2^(k+4):Nat):Int):=by rw[hp,Int.fdiv_eq_ediv_of_nonneg _ (Int.natCast_nonneg _)];rfl
  have hd:o/2^(k+4)≤o:=Nat.div_le_self _ _
  have e1:=Zhb (r:=o/2^(k+4)) (by omega)
  have e2:=Zb6 (r:=o) (k:=19*2^k) (by omega) (by omega)
  have ho2:(if o/2^(k+4)%2=1 then o ^^^ (19*2^k)else o)<128:=by split;exact Nat.xor_lt_two_pow (n:=7) ho h19;exact ho
  have i:=ih (if o/2^(k+4)%2=1 then o ^^^ (19*2^k)else o) (by omega) ho2
  rw[ZuB]
  have e7:∀x:Nat,(((x:Nat):Int)=1)=(x=1):=fun x=>by simp;omega
  have g:(4:Int)≤((k+1:Nat):Int)+3:=by omega
  have hA:AllT [Zae (decide ((0:Int)≤((k+1:Nat):Int)+3)) (Nat.blt (k+4) 64)]:=by simp;omega
  have hB:AllT [std.inR .i64 ((k:Int)+3),Zae (Zae (decide ((0:Int)≤((k+1:Nat):Int)+3-4)) (Nat.blt k 64)) (std.inR .i64 ((19*2^k:Nat):Int)),std.inR .i64 (((k+1:Nat):Int)+3-4)]:=by simp;omega
  have hD:AllT [std.inR .i64 ((k:Int)+3)]:=by simp;omega
  simp only[ZfY,ZEW,ZCX,Zbh,ZoE,Zw7,Zvy,k1,k2,k3,e4,e1,hp2,e2,e7,Zvg,ZuY,decide_eq_true g,if_true]
  refine⟨hA,?_⟩
  by_cases h1:o/2^(k+4)%2=1
  ·rw[if_pos h1]at i⊢
   rw[if_pos (decide_eq_true h1)]
   exact⟨hB,i⟩
  ·rw[if_neg h1]at i⊢
   rw[if_neg (by simpa using h1)]
   exact⟨hD,i⟩
theorem U22(a b:Nat)(ha:a<16)(hb:b<16):∀(k n o:Nat),n+k=4→o<128→ZuB 3 (Zq8 a b k n o)=ZaB a b→Zq8 a b k n o<128→Ev C (ZgY a b o n) (Zf6 a b o n) (Za9 22 (.int .i64 ((ZaB a b:Nat):Int)) none):=by
 intro k
 induction k with
 |zero=>
  intro n o hn ho he hu
  rw[Zq8]at he hu
  refine tgo hC ZcI Zjy ?_
  have i:=D22 hC 3 o (by omega) ho
  rw[he]at i
  have h4:n=4:=by omega
  subst h4
  simp[Zfk]at i⊢
  exact i
 |succ k ih=>
  intro n o hn ho he hu
  rw[Zq8]at he hu
  refine tgo hC ZcI Zjy ?_
  have hn3:n=0∨n=1∨n=2∨n=3:=by omega
  have hp:(2:Int)^n=((2^n:Nat):Int):=by rw[Int.natCast_pow];rfl
  have hp2:(a:Int)*2^n=((a*2^n:Nat):Int):=by rw[Int.natCast_mul,Int.natCast_pow];rfl
  have h19:a*2^n<128:=by rcases hn3 with rfl |rfl |rfl |rfl<;>omega
  have e4:(b:Int).fdiv (2^n)=((b/2^n:Nat):Int):=by rw[hp,Int.fdiv_eq_ediv_of_nonneg _ (Int.natCast_nonneg _)];rfl
  have hd:b/2^n≤b:=Nat.div_le_self _ _
  have e1:=Zhb (r:=b/2^n) (by omega)
  have e2:=Zb6 (r:=o) (k:=a*2^n) (by omega) (by omega)
  have ho2:(if b/2^n%2=1 then o ^^^ (a*2^n)else o)<128:=by split;exact Nat.xor_lt_two_pow (n:=7) ho h19;exact ho
  have i:=ih (n+1) (if b/2^n%2=1 then o ^^^ (a*2^n)else o) (by omega) ho2 he hu
  have e7:∀x:Nat,(((x:Nat):Int)=1)=(x=1):=fun x=>by simp;omega
  have g:(n:Int)<4:=by omega
  have hA:AllT [Zae (decide ((0:Int)≤(n:Int))) (Nat.blt n 64)]:=by simp;omega
  have hB:AllT [std.inR .i64 ((n:Int)+1),Zae (Zae (decide ((0:Int)≤(n:Int))) (Nat.blt n 64)) (std.inR .i64 ((a*2^n:Nat):Int))]:=by simp;omega
  have hD:AllT [std.inR .i64 ((n:Int)+1)]:=by simp;omega
  simp only[Zfk,ZEE,ZCX,Zbh,ZrN,Zw7,Zvy,Int.toNat_natCast,e4,e1,hp2,e2,e7,Zvg,ZuY,decide_eq_true g,if_true]
  refine⟨hA,?_⟩
  by_cases h1:b/2^n%2=1
  ·rw[if_pos h1]at i
   rw[if_pos (decide_eq_true h1)]
   exact⟨hB,i⟩
  ·rw[if_neg h1]at i
   rw[if_neg (by simpa using h1)]
   exact⟨hD,i⟩
end
theorem Zdb{a:Int}(h:elB a=true):∃n:Nat,a=n∧n<16:=by
 have:=of_decide_eq_true h
 exact⟨a.toNat,by omega,by omega⟩
theorem ZqJ(a b:Int)(ha:elB a=true)(hb:elB b=true):Zah Try.prog 71 [.int .i64 a, .int .i64 b] (.int .i64 (gM a b)) none:=by
 obtain⟨m,rfl,hm⟩:=Zdb ha
 obtain⟨n,rfl,hn⟩:=Zdb hb
 refine start (Zwe m n) fun C hC=>tgo hC ZcI ZEl ?_
 have i:=L71 hC 4 m n 0 hm (by omega) (by omega) (by omega)
 rw[Zw5 hm hn]at i
 simp[ZBn,gM]at i⊢
 exact i
theorem ZpM(a b:Int)(ha:elB a=true)(hb:elB b=true):Zah Try.prog 22 [.int .i64 a, .int .i64 b] (.int .i64 (gM a b)) none:=by
 obtain⟨m,rfl,hm⟩:=Zdb ha
 obtain⟨n,rfl,hn⟩:=Zdb hb
 refine start (ZvQ m n) fun C hC=>tgo hC ZcI ZCH ?_
 obtain⟨p1,p2⟩:=ZuV hm hn
 have i:=U22 hC m n hm hn 4 0 0 (by omega) (by omega) p1 p2
 simp[ZzZ,gM]at i⊢
 exact i
def k71:Ctr:=⟨71,0,fun _ a=>match a with |[.int .i64 a, .int .i64 b]=>some (decide (elB a=true∧elB b=true), .int .i64 (gM a b),none) |_=>none⟩
theorem Zzq:k71.OK Try.prog:=fun pa args r fr h=>by
 simp only[k71]at h
 split at h
 ·simp only[Option.some.injEq,Prod.mk.injEq,decide_eq_true_eq]at h
  obtain⟨h0,rfl,rfl⟩:=h
  exact ZqJ _ _ h0.1 h0.2
 ·cases h
def k22:Ctr:=⟨22,0,fun _ a=>match a with |[.int .i64 a, .int .i64 b]=>some (decide (elB a=true∧elB b=true), .int .i64 (gM a b),none) |_=>none⟩
theorem ZxO:k22.OK Try.prog:=fun pa args r fr h=>by
 simp only[k22]at h
 split at h
 ·simp only[Option.some.injEq,Prod.mk.injEq,decide_eq_true_eq]at h
  obtain⟨h0,rfl,rfl⟩:=h
  exact ZpM _ _ h0.1 h0.2
 ·cases h
def Ka:List Ctr:=[k71,k22]++Jb
theorem ZfA:Zaz Try.prog Ka:=⟨Zzq,⟨ZxO,ZEg⟩⟩
end Go.Proofs.Ytklbmkllepkjcaa
/- Paths of functions, printed by the explorer (Gx). No condition. -/
namespace Go.Proofs.Ytklbmkllepkjcaa
set_option maxRecDepth 100000
set_option linter.unusedVariables false
def ZtM(n:Int):AFrame:={ fn:=117,N:=12,env:=[(0,AV.int .i64 n)],todo:=[.code a117.code],defs:=[],rnd:=none,ret:=false,res:=[ARes.tmp 2] }
def ZCS(n:Int):List AFrame:=[(ZtM n)]
theorem Zst(n:Int):Zat tab 117 [AV.int .i64 n]=some (ZtM n):=rfl
def ZdZ(n0 n1 n2:Int):List AFrame:=[{ fn:=117,N:=12,env:=[(3,AV.int .i64 n1),(5,AV.int .i64 n0),(6,AV.int .i64 n2)],todo:=.code (ACode.gh [] ZtS)::ZAn,defs:=[],rnd:=none,ret:=false,res:=[ARes.tmp 2] }]
def ZcX(n0 n1 n2:Int):Zaa:=[]
abbrev Zgg(n0 n1 n2:Int):List AFrame×Zaa:=(ZdZ n0 n1 n2,ZcX n0 n1 n2)
def ZtC(A:Ar)(K:KT)(F:FT)(n:Int):Prop:=rB [A.not (A.eq 15 0)] (K (Zgg (A.rem n 15) (1) (0)))
theorem Zys{A:Ar}{K:KT}{F:FT}{M:MT}{n:Int} :Zam A tab Ka 117 K F M (.run 18 (.hd)) (ZCS n) []=ZtC A K F n:=by kernel_rfl
def Zc4(A:Ar)(K:KT)(F:FT)(n0 n1 n2:Int):Prop:=bB (A.lt n2 n0) (rB [A.inR .i64 (A.add n2 1),decide (elB n1=true∧elB 2=true)] (K (Zgg (n0) (gM n1 2) (A.add n2 1)))) (F (AV.int .i64 n1) (none))
theorem Zgp{A:Ar}{K:KT}{F:FT}{M:MT}{n0 n1 n2:Int} :Zam A tab Ka 117 K F M (.run 6 (.tf (.run 15 (.hd)) (.run 7 (.fn)))) (ZdZ n0 n1 n2) (ZcX n0 n1 n2)=Zc4 A K F n0 n1 n2:=by kernel_rfl
def Zy8(n:Int):AFrame:={ fn:=77,N:=13,env:=[(0,AV.int .i64 n)],todo:=[.code a77.code],defs:=[],rnd:=none,ret:=false,res:=[ARes.tmp 2] }
def ZGT(n:Int):List AFrame:=[(Zy8 n)]
theorem ZwQ(n:Int):Zat tab 77 [AV.int .i64 n]=some (Zy8 n):=rfl
def ZhI(n n0 n1:Int):List AFrame:=[{ fn:=77,N:=13,env:=[(0,AV.int .i64 n),(3,AV.int .i64 n0),(4,AV.int .i64 n1)],todo:=.code (ACode.gh [] Zx5)::ZC5,defs:=[],rnd:=none,ret:=false,res:=[ARes.tmp 2] }]
def Zfr(n n0 n1:Int):Zaa:=[]
abbrev Zi9(n n0 n1:Int):List AFrame×Zaa:=(ZhI n n0 n1,Zfr n n0 n1)
def ZxS(A:Ar)(K:KT)(F:FT)(n:Int):Prop:=K (Zi9 (n) (1) (0))
theorem ZCN{A:Ar}{K:KT}{F:FT}{M:MT}{n:Int} :Zam A tab Ka 77 K F M (.run 16 (.hd)) (ZGT n) []=ZxS A K F n:=by kernel_rfl
def Zf0(A:Ar)(K:KT)(F:FT)(n n0 n1:Int):Prop:=bB (A.lt n1 n) (rB [A.inR .i64 (A.add n1 1),decide (elB n0=true∧elB 2=true)] (K (Zi9 (n) (gM n0 2) (A.add n1 1)))) (F (AV.int .i64 n0) (none))
theorem Zig{A:Ar}{K:KT}{F:FT}{M:MT}{n n0 n1:Int} :Zam A tab Ka 77 K F M (.run 8 (.tf (.run 16 (.hd)) (.run 7 (.fn)))) (ZhI n n0 n1) (Zfr n n0 n1)=Zf0 A K F n n0 n1:=by kernel_rfl
def Zt3(n:Int):AFrame:={ fn:=128,N:=13,env:=[(0,AV.int .i64 n)],todo:=[.code a128.code],defs:=[],rnd:=none,ret:=false,res:=[ARes.tmp 2] }
def ZCs(n:Int):List AFrame:=[(Zt3 n)]
theorem Zsf(n:Int):Zat tab 128 [AV.int .i64 n]=some (Zt3 n):=rfl
def Zd9(n n0:Int):List AFrame:=[{ fn:=128,N:=13,env:=[(0,AV.int .i64 n),(3,AV.int .i64 n0)],todo:=.code (ACode.gh [] ZtQ)::ZA8,defs:=[],rnd:=none,ret:=false,res:=[ARes.tmp 2] }]
def Zc8(n n0:Int):Zaa:=[]
abbrev Zgo(n n0:Int):List AFrame×Zaa:=(Zd9 n n0,Zc8 n n0)
def Zut(A:Ar)(K:KT)(F:FT)(n:Int):Prop:=K (Zgo (n) (1))
theorem Zzv{A:Ar}{K:KT}{F:FT}{M:MT}{n:Int} :Zam A tab Ka 128 K F M (.run 12 (.hd)) (ZCs n) []=Zut A K F n:=by kernel_rfl
def Zb8(A:Ar)(K:KT)(F:FT)(n n0:Int):Prop:=bB (A.lt n0 16) (rB [decide (elB n=true∧elB n0=true)] (bB (A.eq (gM n n0) 1) (F (AV.int .i64 n0) (none)) (rB [A.inR .i64 (A.add n0 1)] (K (Zgo (n) (A.add n0 1)))))) (F (AV.int .i64 0) (none))
theorem Zgc{A:Ar}{K:KT}{F:FT}{M:MT}{n n0:Int} :Zam A tab Ka 128 K F M (.run 7 (.tf (.run 10 (.tf (.run 6 (.fn)) (.run 9 (.hd)))) (.run 6 (.fn)))) (Zd9 n n0) (Zc8 n n0)=Zb8 A K F n n0:=by kernel_rfl
def Zzh(n:Int):AFrame:={ fn:=94,N:=13,env:=[(0,AV.int .i64 n)],todo:=[.code a94.code],defs:=[],rnd:=none,ret:=false,res:=[ARes.tmp 2] }
def ZGd(n:Int):List AFrame:=[(Zzh n)]
theorem ZwC(n:Int):Zat tab 94 [AV.int .i64 n]=some (Zzh n):=rfl
def ZgU(n n0:Int):List AFrame:=[{ fn:=94,N:=13,env:=[(0,AV.int .i64 n),(3,AV.int .i64 n0)],todo:=.code (ACode.gh [] ZyG)::ZD5,defs:=[],rnd:=none,ret:=false,res:=[ARes.tmp 2] }]
def ZfF(n n0:Int):Zaa:=[]
abbrev Zi0(n n0:Int):List AFrame×Zaa:=(ZgU n n0,ZfF n n0)
def ZzF(A:Ar)(K:KT)(F:FT)(n:Int):Prop:=K (Zi0 (n) (1))
theorem ZCf{A:Ar}{K:KT}{F:FT}{M:MT}{n:Int} :Zam A tab Ka 94 K F M (.run 12 (.hd)) (ZGd n) []=ZzF A K F n:=by kernel_rfl
def Zdw(A:Ar)(K:KT)(F:FT)(n n0:Int):Prop:=bB (A.lt n0 16) (rB [decide (elB n=true∧elB n0=true)] (bB (A.eq (gM n n0) 1) (F (AV.int .i64 n0) (none)) (rB [A.inR .i64 (A.add n0 1)] (K (Zi0 (n) (A.add n0 1)))))) (F (AV.int .i64 0) (none))
theorem Zh6{A:Ar}{K:KT}{F:FT}{M:MT}{n n0:Int} :Zam A tab Ka 94 K F M (.run 7 (.tf (.run 10 (.tf (.run 6 (.fn)) (.run 9 (.hd)))) (.run 6 (.fn)))) (ZgU n n0) (ZfF n n0)=Zdw A K F n n0:=by kernel_rfl
end Go.Proofs.Ytklbmkllepkjcaa
/- Contracts as a list. No condition. -/
namespace Go.Proofs.Ytklbmkllepkjcaa
def gP(n:Int):Int:=((Zb1 n.toNat:Nat):Int)
theorem Zbn{n:Nat}(h:n<16):elB n=true:=decide_eq_true (by omega)
theorem Zns(a b:Nat):gM a b=((ZaB a b:Nat):Int):=rfl
theorem Zuu(n:Nat):gM ((Zb1 n:Nat):Int) 2=((Zb1 (n+1):Nat):Int):=rfl
theorem ZpR{a b:Nat}(ha:a<16)(hb:b<16)(h1:ZaB a b=1):Zgs a=b:=by
 have h:Zqk (fun a b=>decide (ZaB a b=1→Zgs a=b))=true:=by kernel_rfl
 exact of_decide_eq_true (Zcc h ha hb) h1
theorem ZpW{a:Nat}(ha:a<16)(h:∀j,j<16→ZaB a j≠1):Zgs a=0:=by
 by_cases h0:a=0
 ·subst h0;rfl
 ·obtain⟨h1,h2⟩:=ZzH ha h0
  exact absurd h2 (h _ h1)
section
variable {C:Ctx}(hC:C.P=Try.prog)
include hC
theorem ZFw(n:Nat)(hn:n≤1000):∀(k j:Nat),j+k=n→Ev C (ZdZ n ((Zb1 j:Nat):Int) j) (ZcX n ((Zb1 j:Nat):Int) j) (Za9 117 (.int .i64 ((Zb1 n:Nat):Int)) none):=by
 intro k
 induction k with
 |zero=>
  intro j hj
  refine tgo hC ZfA Zgp ?_
  rw[show j=n by omega]
  simp[Zc4]
 |succ k ih=>
  intro j hj
  refine tgo hC ZfA Zgp ?_
  have i:=ih (j+1) (by omega)
  have e1:=Zbn (Zeq j)
  have e2:elB 2=true:=rfl
  rw[←Zuu]at i
  simp[Zc4,show(j:Int)<n by omega,e1,e2]at i⊢
  exact⟨by omega,i⟩
theorem L77(n:Nat)(hn:n≤1000):∀(k j:Nat),j+k=n→Ev C (ZhI n ((Zb1 j:Nat):Int) j) (Zfr n ((Zb1 j:Nat):Int) j) (Za9 77 (.int .i64 ((Zb1 n:Nat):Int)) none):=by
 intro k
 induction k with
 |zero=>
  intro j hj
  refine tgo hC ZfA Zig ?_
  rw[show j=n by omega]
  simp[Zf0]
 |succ k ih=>
  intro j hj
  refine tgo hC ZfA Zig ?_
  have i:=ih (j+1) (by omega)
  have e1:=Zbn (Zeq j)
  have e2:elB 2=true:=rfl
  rw[←Zuu]at i
  simp[Zf0,show(j:Int)<n by omega,e1,e2]at i⊢
  exact⟨by omega,i⟩
theorem ZFX(a:Nat)(ha:a<16):∀(k b:Nat),b+k=16→(∀j,j<b→ZaB a j≠1)→Ev C (Zd9 a b) (Zc8 a b) (Za9 128 (.int .i64 ((Zgs a:Nat):Int)) none):=by
 intro k
 induction k with
 |zero=>
  intro b hb hj
  refine tgo hC ZfA Zgc ?_
  have e:b=16:=by omega
  rw[ZpW ha (fun j h=>hj j (by omega))]
  subst e
  simp[Zb8]
 |succ k ih=>
  intro b hb hj
  refine tgo hC ZfA Zgc ?_
  have e1:=Zbn ha
  have e2:=Zbn (n:=b) (by omega)
  by_cases h1:ZaB a b=1
  ·rw[ZpR ha (by omega) h1]
   simp[Zb8,e1,e2,Zns,h1,show(b:Int)<16 by omega]
  ·have i:=ih (b+1) (by omega) (fun j h=>by
    by_cases hjb:j=b
    ·subst hjb;exact h1
    ·exact hj j (by omega))
   have h1':¬((ZaB a b:Nat):Int)=1:=by omega
   simp[Zb8,e1,e2,Zns,h1',show(b:Int)<16 by omega]at i⊢
   exact⟨by omega,i⟩
theorem L94(a:Nat)(ha:a<16):∀(k b:Nat),b+k=16→(∀j,j<b→ZaB a j≠1)→Ev C (ZgU a b) (ZfF a b) (Za9 94 (.int .i64 ((Zgs a:Nat):Int)) none):=by
 intro k
 induction k with
 |zero=>
  intro b hb hj
  refine tgo hC ZfA Zh6 ?_
  have e:b=16:=by omega
  rw[ZpW ha (fun j h=>hj j (by omega))]
  subst e
  simp[Zdw]
 |succ k ih=>
  intro b hb hj
  refine tgo hC ZfA Zh6 ?_
  have e1:=Zbn ha
  have e2:=Zbn (n:=b) (by omega)
  by_cases h1:ZaB a b=1
  ·rw[ZpR ha (by omega) h1]
   simp[Zdw,e1,e2,Zns,h1,show(b:Int)<16 by omega]
  ·have i:=ih (b+1) (by omega) (fun j h=>by
    by_cases hjb:j=b
    ·subst hjb;exact h1
    ·exact hj j (by omega))
   have h1':¬((ZaB a b:Nat):Int)=1:=by omega
   simp[Zdw,e1,e2,Zns,h1',show(b:Int)<16 by omega]at i⊢
   exact⟨by omega,i⟩
end
theorem Zqp(n:Int)(h:0≤n):Zah Try.prog 117 [.int .i64 n] (.int .i64 (gP n)) none:=by
 obtain⟨m,rfl⟩:=Int.eq_ofNat_of_zero_le h
 refine start (Zst m) fun C hC=>tgo hC ZfA Zys ?_
 have i:=ZFw hC (m%15) (by omega) (m%15) 0 (by omega)
 have e:((m:Nat):Int).tmod 15=((m%15:Nat):Int):=rfl
 have e2:gP m=((Zb1 (m%15):Nat):Int):=by unfold gP;rw[Int.toNat_natCast,ZmZ]
 rw[e2]
 simp only[ZtC,ZvE,e]
 simp[Zb1]at i⊢
 exact i
theorem Zsh(n:Int)(h:0≤n∧n≤1000):Zah Try.prog 77 [.int .i64 n] (.int .i64 (gP n)) none:=by
 obtain⟨m,rfl⟩:=Int.eq_ofNat_of_zero_le h.1
 refine start (ZwQ m) fun C hC=>tgo hC ZfA ZCN ?_
 have i:=L77 hC m (by omega) m 0 (by omega)
 simp[ZxS,Zb1,gP]at i⊢
 exact i
theorem Zqi(a:Int)(h:elB a=true):Zah Try.prog 128 [.int .i64 a] (.int .i64 (gI a)) none:=by
 obtain⟨m,rfl,hm⟩:=Zdb h
 refine start (Zsf m) fun C hC=>tgo hC ZfA Zzv ?_
 have i:=ZFX hC m hm 15 1 (by omega) (fun j hj=>by rw[show j=0 by omega,ZcY hm];decide)
 simp[Zut,gI]at i⊢
 exact i
theorem Ztf(a:Int)(h:elB a=true):Zah Try.prog 94 [.int .i64 a] (.int .i64 (gI a)) none:=by
 obtain⟨m,rfl,hm⟩:=Zdb h
 refine start (ZwC m) fun C hC=>tgo hC ZfA ZCf ?_
 have i:=L94 hC m hm 15 1 (by omega) (fun j hj=>by rw[show j=0 by omega,ZcY hm];decide)
 simp[ZzF,gI]at i⊢
 exact i
def k117:Ctr:=⟨117,0,fun _ a=>match a with |[.int .i64 n]=>some (decide (0≤n), .int .i64 (gP n),none) |_=>none⟩
theorem Zwa:k117.OK Try.prog:=fun pa args r fr h=>by
 simp only[k117]at h
 split at h
 ·simp only[Option.some.injEq,Prod.mk.injEq,decide_eq_true_eq]at h
  obtain⟨h0,rfl,rfl⟩:=h
  exact Zqp _ h0
 ·cases h
def k77:Ctr:=⟨77,0,fun _ a=>match a with |[.int .i64 n]=>some (decide (0≤n∧n≤1000), .int .i64 (gP n),none) |_=>none⟩
theorem Zy6:k77.OK Try.prog:=fun pa args r fr h=>by
 simp only[k77]at h
 split at h
 ·simp only[Option.some.injEq,Prod.mk.injEq,decide_eq_true_eq]at h
  obtain⟨h0,rfl,rfl⟩:=h
  exact Zsh _ h0
 ·cases h
def k128:Ctr:=⟨128,0,fun _ a=>match a with |[.int .i64 a]=>some (decide (elB a=true), .int .i64 (gI a),none) |_=>none⟩
theorem ZwO:k128.OK Try.prog:=fun pa args r fr h=>by
 simp only[k128]at h
 split at h
 ·simp only[Option.some.injEq,Prod.mk.injEq,decide_eq_true_eq]at h
  obtain⟨h0,rfl,rfl⟩:=h
  exact Zqi _ h0
 ·cases h
def k94:Ctr:=⟨94,0,fun _ a=>match a with |[.int .i64 a]=>some (decide (elB a=true), .int .i64 (gI a),none) |_=>none⟩
theorem ZAf:k94.OK Try.prog:=fun pa args r fr h=>by
 simp only[k94]at h
 split at h
 ·simp only[Option.some.injEq,Prod.mk.injEq,decide_eq_true_eq]at h
  obtain⟨h0,rfl,rfl⟩:=h
  exact Ztf _ h0
 ·cases h
def Kb:List Ctr:=[k117,k77,k128,k94]++Ka
theorem Zed:Zaz Try.prog Kb:=⟨Zwa,⟨Zy6,⟨ZwO,⟨ZAf,ZfA⟩⟩⟩⟩
end Go.Proofs.Ytklbmkllepkjcaa
