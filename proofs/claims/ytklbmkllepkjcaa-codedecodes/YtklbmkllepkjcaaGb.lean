/- Calls at given values. Printed by facts.py. -/
import Derived.Test.YtklbmkllepkjcaaSr
import Derived.KernelRfl
namespace Go.Proofs.Ytklbmkllepkjcaa
set_option maxRecDepth 1000000
def aw0:Fact:=⟨58,[],(.agg (.gen [(.int .i64 2),(.int .i64 7),(.int .i64 5)])),none⟩
theorem ZET:Zai Try.prog aw0.f aw0.args aw0.r aw0.fr:=Zab (n:=100000) (l:=[]) follows Zac trivial (by kernel_rfl)
def aw1:Fact:=⟨59,[],(.row 0 0),(some ⟨3,1,(.ints .i64 [(-1),(-1),1,1,(-1),(-1),1,1])⟩)⟩
theorem ZB5:Zai Try.prog aw1.f aw1.args aw1.r aw1.fr:=Zab (n:=100000) (l:=[]) follows Zac trivial (by kernel_rfl)
def aw2:Fact:=⟨91,[(.int .i64 2),(.int .i64 1),(.int .i64 3)],(.bool true),none⟩
theorem ZCx:Zai Try.prog aw2.f aw2.args aw2.r aw2.fr:=Zab (n:=100000) (l:=[]) follows Zac trivial (by kernel_rfl)
def aw3:Fact:=⟨91,[(.int .i64 7),(.int .i64 1),(.int .i64 7)],(.bool true),none⟩
theorem ZAQ:Zai Try.prog aw3.f aw3.args aw3.r aw3.fr:=Zab (n:=100000) (l:=[]) follows Zac trivial (by kernel_rfl)
def aw4:Fact:=⟨111,[(.int .i64 7),(.eptr (.int .i64 1) 0),(.eptr (.int .i64 7) 0)],(.bool false),none⟩
theorem ZCJ:Zai Try.prog aw4.f aw4.args aw4.r aw4.fr:=Zab (n:=100000) (l:=[aw3]) follows Zac ⟨ZAQ,trivial⟩ (by kernel_rfl)
def aw5:Fact:=⟨91,[(.int .i64 5),(.int .i64 1),(.int .i64 7)],(.bool true),none⟩
theorem ZCk:Zai Try.prog aw5.f aw5.args aw5.r aw5.fr:=Zab (n:=100000) (l:=[]) follows Zac trivial (by kernel_rfl)
def aw6:Fact:=⟨111,[(.int .i64 5),(.eptr (.int .i64 1) 0),(.eptr (.int .i64 7) 0)],(.bool false),none⟩
theorem ZDj:Zai Try.prog aw6.f aw6.args aw6.r aw6.fr:=Zab (n:=100000) (l:=[aw5]) follows Zac ⟨ZCk,trivial⟩ (by kernel_rfl)
def aw7:Fact:=⟨123,[(.list (.ints .i64 [7,5])),(.fn 111 [(.eptr (.int .i64 1) 0),(.eptr (.int .i64 7) 0)])],(.int .i64 (-1)),none⟩
theorem ZCN:Zai Try.prog aw7.f aw7.args aw7.r aw7.fr:=Zab (n:=100000) (l:=[aw4,aw6]) follows Zac ⟨ZCJ,⟨ZDj,trivial⟩⟩ (by kernel_rfl)
def aw8:Fact:=⟨110,[(.list (.ints .i64 [7,5])),(.fn 111 [(.eptr (.int .i64 1) 0),(.eptr (.int .i64 7) 0)])],(.bool false),none⟩
theorem ZC4:Zai Try.prog aw8.f aw8.args aw8.r aw8.fr:=Zab (n:=100000) (l:=[aw7]) follows Zac ⟨ZCN,trivial⟩ (by kernel_rfl)
def aw9:Fact:=⟨85,[(.bool true),(.int .i64 2)],(.int .i64 0),none⟩
theorem Zjr:Zai Try.prog aw9.f aw9.args aw9.r aw9.fr:=Zab (n:=100000) (l:=[]) follows Zac trivial (by kernel_rfl)
def aw10:Fact:=⟨70,[(.list (.ints .i64 [7,5])),(.int .i64 1),(.int .i64 7)],(.int .i64 0),none⟩
theorem Zy7:Zai Try.prog aw10.f aw10.args aw10.r aw10.fr:=Zab (n:=100000) (l:=[aw8,aw9]) follows Zac ⟨ZC4,⟨Zjr,trivial⟩⟩ (by kernel_rfl)
def aw11:Fact:=⟨63,[(.agg (.gen [(.int .i64 2),(.int .i64 7),(.int .i64 5)]))],(.int .i64 0),none⟩
theorem Zr8:Zai Try.prog aw11.f aw11.args aw11.r aw11.fr:=Zab (n:=100000) (l:=[aw2,aw10]) follows Zac ⟨ZCx,⟨Zy7,trivial⟩⟩ (by kernel_rfl)
def aw12:Fact:=⟨85,[(.bool true),(.int .i64 10)],(.int .i64 0),none⟩
theorem Zn9:Zai Try.prog aw12.f aw12.args aw12.r aw12.fr:=Zab (n:=100000) (l:=[]) follows Zac trivial (by kernel_rfl)
def aw13:Fact:=⟨85,[(.bool true),(.int .i64 8)],(.int .i64 0),none⟩
theorem ZrT:Zai Try.prog aw13.f aw13.args aw13.r aw13.fr:=Zab (n:=100000) (l:=[]) follows Zac trivial (by kernel_rfl)
def aw14:Fact:=⟨91,[(.int .i64 (-1)),(.int .i64 (-7)),(.int .i64 7)],(.bool true),none⟩
theorem ZAk:Zai Try.prog aw14.f aw14.args aw14.r aw14.fr:=Zab (n:=100000) (l:=[]) follows Zac trivial (by kernel_rfl)
def aw15:Fact:=⟨111,[(.int .i64 (-1)),(.eptr (.int .i64 (-7)) 0),(.eptr (.int .i64 7) 0)],(.bool false),none⟩
theorem Zy2:Zai Try.prog aw15.f aw15.args aw15.r aw15.fr:=Zab (n:=100000) (l:=[aw14]) follows Zac ⟨ZAk,trivial⟩ (by kernel_rfl)
def aw16:Fact:=⟨91,[(.int .i64 1),(.int .i64 (-7)),(.int .i64 7)],(.bool true),none⟩
theorem ZyG:Zai Try.prog aw16.f aw16.args aw16.r aw16.fr:=Zab (n:=100000) (l:=[]) follows Zac trivial (by kernel_rfl)
def aw17:Fact:=⟨111,[(.int .i64 1),(.eptr (.int .i64 (-7)) 0),(.eptr (.int .i64 7) 0)],(.bool false),none⟩
theorem ZxQ:Zai Try.prog aw17.f aw17.args aw17.r aw17.fr:=Zab (n:=100000) (l:=[aw16]) follows Zac ⟨ZyG,trivial⟩ (by kernel_rfl)
def aw18:Fact:=⟨123,[(.list (.ints .i64 [(-1),(-1),1,1,(-1),(-1),1,1])),(.fn 111 [(.eptr (.int .i64 (-7)) 0),(.eptr (.int .i64 7) 0)])],(.int .i64 (-1)),none⟩
theorem ZyL:Zai Try.prog aw18.f aw18.args aw18.r aw18.fr:=Zab (n:=100000) (l:=[aw15,aw17]) follows Zac ⟨Zy2,⟨ZxQ,trivial⟩⟩ (by kernel_rfl)
def aw19:Fact:=⟨110,[(.list (.ints .i64 [(-1),(-1),1,1,(-1),(-1),1,1])),(.fn 111 [(.eptr (.int .i64 (-7)) 0),(.eptr (.int .i64 7) 0)])],(.bool false),none⟩
theorem ZAu:Zai Try.prog aw19.f aw19.args aw19.r aw19.fr:=Zab (n:=100000) (l:=[aw18]) follows Zac ⟨ZyL,trivial⟩ (by kernel_rfl)
def aw20:Fact:=⟨70,[(.list (.ints .i64 [(-1),(-1),1,1,(-1),(-1),1,1])),(.int .i64 (-7)),(.int .i64 7)],(.int .i64 0),none⟩
theorem ZyZ:Zai Try.prog aw20.f aw20.args aw20.r aw20.fr:=Zab (n:=100000) (l:=[aw19,aw9]) follows Zac ⟨ZAu,⟨Zjr,trivial⟩⟩ (by kernel_rfl)
def aw21:Fact:=⟨72,[(.list (.ints .i64 [0,0,0]))],(.int .i64 0),none⟩
theorem ZsX:Zai Try.prog aw21.f aw21.args aw21.r aw21.fr:=Zab (n:=100000) (l:=[]) follows Zac trivial (by kernel_rfl)
def aw22:Fact:=⟨64,[(.agg (.gen [(.int .i64 2),(.int .i64 7),(.int .i64 5)])),(.list (.ints .i64 [(-1),(-1),1,1,(-1),(-1),1,1]))],(.int .i64 0),none⟩
theorem ZyN:Zai Try.prog aw22.f aw22.args aw22.r aw22.fr:=Zab (n:=100000) (l:=[aw12,aw13,aw20,aw21]) follows Zac ⟨Zn9,⟨ZrT,⟨ZyZ,⟨ZsX,trivial⟩⟩⟩⟩ (by kernel_rfl)
def aw23:Fact:=⟨84,[(.agg (.gen [(.int .i64 2),(.int .i64 7),(.int .i64 5),(.list (.ints .i64 [(-1),(-1),1,1,(-1),(-1),1,1]))]))],(.int .i64 4),none⟩
theorem Zsd:Zai Try.prog aw23.f aw23.args aw23.r aw23.fr:=Zab (n:=100000) (l:=[]) follows Zac trivial (by kernel_rfl)
def aw24:Fact:=⟨86,[(.agg (.gen [(.int .i64 2),(.int .i64 7),(.int .i64 5),(.list (.ints .i64 [(-1),(-1),1,1,(-1),(-1),1,1]))]))],(.int .i64 4),none⟩
theorem Zzy:Zai Try.prog aw24.f aw24.args aw24.r aw24.fr:=Zab (n:=100000) (l:=[]) follows Zac trivial (by kernel_rfl)
def aw25:Fact:=⟨127,[(.int .u64 1),(.int .u64 4)],(.tup [(.int .u64 0),(.int .u64 4)]),none⟩
theorem ZxS:Zai Try.prog aw25.f aw25.args aw25.r aw25.fr:=Zab (n:=100000) (l:=[]) follows Zac trivial (by kernel_rfl)
def aw26:Fact:=⟨114,[(.int .u64 1),(.int .u64 4)],(.tup [(.int .u64 0),(.int .u64 4)]),none⟩
theorem ZsU:Zai Try.prog aw26.f aw26.args aw26.r aw26.fr:=Zab (n:=100000) (l:=[aw25]) follows Zac ⟨ZxS,trivial⟩ (by kernel_rfl)
def aw27:Fact:=⟨122,[(.list (.flts .f32 [3351465984])),(.int .i64 4)],(.row 0 0),(some ⟨118,1,(.flts .f32 [3351465984,3351465984,3351465984,3351465984])⟩)⟩
theorem Zyt:Zai Try.prog aw27.f aw27.args aw27.r aw27.fr:=Zab (n:=100000) (l:=[aw26]) follows Zac ⟨ZsU,trivial⟩ (by kernel_rfl)
def aw28:Fact:=⟨125,[(.int .u64 0)],(.int .i64 0),none⟩
theorem Zzu:Zai Try.prog aw28.f aw28.args aw28.r aw28.fr:=Zab (n:=100000) (l:=[]) follows Zac trivial (by kernel_rfl)
def aw29:Fact:=⟨113,[(.int .u64 0)],(.int .i64 0),none⟩
theorem ZrE:Zai Try.prog aw29.f aw29.args aw29.r aw29.fr:=Zab (n:=100000) (l:=[aw28]) follows Zac ⟨Zzu,trivial⟩ (by kernel_rfl)
def aw30:Fact:=⟨82,[(.agg (.gen [(.int .i64 2),(.int .i64 7),(.int .i64 5)])),(.int .i64 0),(.int .i64 0)],(.tup [(.int .i64 0),(.agg (.ints .i64 [0,0]))]),none⟩
theorem ZAc:Zai Try.prog aw30.f aw30.args aw30.r aw30.fr:=Zab (n:=100000) (l:=[aw29]) follows Zac ⟨ZrE,trivial⟩ (by kernel_rfl)
def aw31:Fact:=⟨89,[(.int .i64 0),(.int .i64 1)],(.int .i64 1),none⟩
theorem Zyc:Zai Try.prog aw31.f aw31.args aw31.r aw31.fr:=Zab (n:=100000) (l:=[]) follows Zac trivial (by kernel_rfl)
def aw32:Fact:=⟨108,[(.agg (.gen [(.int .i64 2),(.int .i64 7),(.int .i64 5),(.list (.ints .i64 [(-1),(-1),1,1,(-1),(-1),1,1]))]))],(.int .i64 2),none⟩
theorem ZAj:Zai Try.prog aw32.f aw32.args aw32.r aw32.fr:=Zab (n:=100000) (l:=[aw23]) follows Zac ⟨Zsd,trivial⟩ (by kernel_rfl)
def aw33:Fact:=⟨125,[(.int .u64 1)],(.int .i64 1),none⟩
theorem ZzD:Zai Try.prog aw33.f aw33.args aw33.r aw33.fr:=Zab (n:=100000) (l:=[]) follows Zac trivial (by kernel_rfl)
def aw34:Fact:=⟨113,[(.int .u64 1)],(.int .i64 1),none⟩
theorem ZrJ:Zai Try.prog aw34.f aw34.args aw34.r aw34.fr:=Zab (n:=100000) (l:=[aw33]) follows Zac ⟨ZzD,trivial⟩ (by kernel_rfl)
def aw35:Fact:=⟨82,[(.agg (.gen [(.int .i64 2),(.int .i64 7),(.int .i64 5)])),(.int .i64 1),(.int .i64 0)],(.tup [(.int .i64 0),(.agg (.ints .i64 [1,1]))]),none⟩
theorem Ztf:Zai Try.prog aw35.f aw35.args aw35.r aw35.fr:=Zab (n:=100000) (l:=[aw34]) follows Zac ⟨ZrJ,trivial⟩ (by kernel_rfl)
def aw36:Fact:=⟨89,[(.int .i64 1),(.int .i64 1)],(.int .i64 (-1)),none⟩
theorem Zyb:Zai Try.prog aw36.f aw36.args aw36.r aw36.fr:=Zab (n:=100000) (l:=[]) follows Zac trivial (by kernel_rfl)
def aw37:Fact:=⟨125,[(.int .u64 2)],(.int .i64 1),none⟩
theorem ZyQ:Zai Try.prog aw37.f aw37.args aw37.r aw37.fr:=Zab (n:=100000) (l:=[]) follows Zac trivial (by kernel_rfl)
def aw38:Fact:=⟨113,[(.int .u64 2)],(.int .i64 1),none⟩
theorem Zy4:Zai Try.prog aw38.f aw38.args aw38.r aw38.fr:=Zab (n:=100000) (l:=[aw37]) follows Zac ⟨ZyQ,trivial⟩ (by kernel_rfl)
def aw39:Fact:=⟨82,[(.agg (.gen [(.int .i64 2),(.int .i64 7),(.int .i64 5)])),(.int .i64 2),(.int .i64 0)],(.tup [(.int .i64 1),(.agg (.ints .i64 [1,0]))]),none⟩
theorem Zsj:Zai Try.prog aw39.f aw39.args aw39.r aw39.fr:=Zab (n:=100000) (l:=[aw38,aw29]) follows Zac ⟨Zy4,⟨ZrE,trivial⟩⟩ (by kernel_rfl)
def aw40:Fact:=⟨125,[(.int .u64 3)],(.int .i64 2),none⟩
theorem ZzE:Zai Try.prog aw40.f aw40.args aw40.r aw40.fr:=Zab (n:=100000) (l:=[]) follows Zac trivial (by kernel_rfl)
def aw41:Fact:=⟨113,[(.int .u64 3)],(.int .i64 2),none⟩
theorem Zyn:Zai Try.prog aw41.f aw41.args aw41.r aw41.fr:=Zab (n:=100000) (l:=[aw40]) follows Zac ⟨ZzE,trivial⟩ (by kernel_rfl)
def aw42:Fact:=⟨82,[(.agg (.gen [(.int .i64 2),(.int .i64 7),(.int .i64 5)])),(.int .i64 3),(.int .i64 0)],(.tup [(.int .i64 1),(.agg (.ints .i64 [0,1]))]),none⟩
theorem Zrw:Zai Try.prog aw42.f aw42.args aw42.r aw42.fr:=Zab (n:=100000) (l:=[aw41,aw34]) follows Zac ⟨Zyn,⟨ZrJ,trivial⟩⟩ (by kernel_rfl)
def aw43:Fact:=⟨89,[(.int .i64 0),(.int .i64 (-1))],(.int .i64 (-1)),none⟩
theorem ZyM:Zai Try.prog aw43.f aw43.args aw43.r aw43.fr:=Zab (n:=100000) (l:=[]) follows Zac trivial (by kernel_rfl)
def aw44:Fact:=⟨89,[(.int .i64 1),(.int .i64 (-1))],(.int .i64 1),none⟩
theorem Zzq:Zai Try.prog aw44.f aw44.args aw44.r aw44.fr:=Zab (n:=100000) (l:=[]) follows Zac trivial (by kernel_rfl)
def aw45:Fact:=⟨125,[(.int .u64 4)],(.int .i64 1),none⟩
theorem Zzw:Zai Try.prog aw45.f aw45.args aw45.r aw45.fr:=Zab (n:=100000) (l:=[]) follows Zac trivial (by kernel_rfl)
def aw46:Fact:=⟨113,[(.int .u64 4)],(.int .i64 1),none⟩
theorem ZsQ:Zai Try.prog aw46.f aw46.args aw46.r aw46.fr:=Zab (n:=100000) (l:=[aw45]) follows Zac ⟨Zzw,trivial⟩ (by kernel_rfl)
def aw47:Fact:=⟨82,[(.agg (.gen [(.int .i64 2),(.int .i64 7),(.int .i64 5)])),(.int .i64 0),(.int .i64 1)],(.tup [(.int .i64 2),(.agg (.ints .i64 [1,1]))]),none⟩
theorem Zs5:Zai Try.prog aw47.f aw47.args aw47.r aw47.fr:=Zab (n:=100000) (l:=[aw46]) follows Zac ⟨ZsQ,trivial⟩ (by kernel_rfl)
def aw48:Fact:=⟨125,[(.int .u64 5)],(.int .i64 2),none⟩
theorem Zzp:Zai Try.prog aw48.f aw48.args aw48.r aw48.fr:=Zab (n:=100000) (l:=[]) follows Zac trivial (by kernel_rfl)
def aw49:Fact:=⟨113,[(.int .u64 5)],(.int .i64 2),none⟩
theorem Zrj:Zai Try.prog aw49.f aw49.args aw49.r aw49.fr:=Zab (n:=100000) (l:=[aw48]) follows Zac ⟨Zzp,trivial⟩ (by kernel_rfl)
def aw50:Fact:=⟨82,[(.agg (.gen [(.int .i64 2),(.int .i64 7),(.int .i64 5)])),(.int .i64 1),(.int .i64 1)],(.tup [(.int .i64 2),(.agg (.ints .i64 [0,0]))]),none⟩
theorem Zre:Zai Try.prog aw50.f aw50.args aw50.r aw50.fr:=Zab (n:=100000) (l:=[aw49]) follows Zac ⟨Zrj,trivial⟩ (by kernel_rfl)
def aw51:Fact:=⟨125,[(.int .u64 6)],(.int .i64 2),none⟩
theorem Zy6:Zai Try.prog aw51.f aw51.args aw51.r aw51.fr:=Zab (n:=100000) (l:=[]) follows Zac trivial (by kernel_rfl)
def aw52:Fact:=⟨113,[(.int .u64 6)],(.int .i64 2),none⟩
theorem Zz9:Zai Try.prog aw52.f aw52.args aw52.r aw52.fr:=Zab (n:=100000) (l:=[aw51]) follows Zac ⟨Zy6,trivial⟩ (by kernel_rfl)
def aw53:Fact:=⟨82,[(.agg (.gen [(.int .i64 2),(.int .i64 7),(.int .i64 5)])),(.int .i64 2),(.int .i64 1)],(.tup [(.int .i64 3),(.agg (.ints .i64 [0,1]))]),none⟩
theorem Ztd:Zai Try.prog aw53.f aw53.args aw53.r aw53.fr:=Zab (n:=100000) (l:=[aw52,aw46]) follows Zac ⟨Zz9,⟨ZsQ,trivial⟩⟩ (by kernel_rfl)
def aw54:Fact:=⟨125,[(.int .u64 7)],(.int .i64 3),none⟩
theorem ZzZ:Zai Try.prog aw54.f aw54.args aw54.r aw54.fr:=Zab (n:=100000) (l:=[]) follows Zac trivial (by kernel_rfl)
def aw55:Fact:=⟨113,[(.int .u64 7)],(.int .i64 3),none⟩
theorem Zx1:Zai Try.prog aw55.f aw55.args aw55.r aw55.fr:=Zab (n:=100000) (l:=[aw54]) follows Zac ⟨ZzZ,trivial⟩ (by kernel_rfl)
def aw56:Fact:=⟨82,[(.agg (.gen [(.int .i64 2),(.int .i64 7),(.int .i64 5)])),(.int .i64 3),(.int .i64 1)],(.tup [(.int .i64 3),(.agg (.ints .i64 [1,0]))]),none⟩
theorem Ztu:Zai Try.prog aw56.f aw56.args aw56.r aw56.fr:=Zab (n:=100000) (l:=[aw55,aw49]) follows Zac ⟨Zx1,⟨Zrj,trivial⟩⟩ (by kernel_rfl)
def aw57:Fact:=⟨65,[(.agg (.gen [(.int .i64 2),(.int .i64 7),(.int .i64 5),(.list (.ints .i64 [(-1),(-1),1,1,(-1),(-1),1,1]))]))],(.tup [(.row 0 0),(.int .i64 6)]),(some ⟨3,1,(.ints .i64 [1,0])⟩)⟩
theorem Zzb:Zai Try.prog aw57.f aw57.args aw57.r aw57.fr:=Zab (n:=100000) (l:=[aw23,aw24,aw27,aw30,aw31,aw32,aw35,aw36,aw39,aw42,aw43,aw44,aw47,aw50,aw53,aw56]) follows Zac ⟨Zsd,⟨Zzy,⟨Zyt,⟨ZAc,⟨Zyc,⟨ZAj,⟨Ztf,⟨Zyb,⟨Zsj,⟨Zrw,⟨ZyM,⟨Zzq,⟨Zs5,⟨Zre,⟨Ztd,⟨Ztu,trivial⟩⟩⟩⟩⟩⟩⟩⟩⟩⟩⟩⟩⟩⟩⟩⟩ (by kernel_rfl)
def aw58:Fact:=⟨13,[(.agg (.gen [(.int .i64 2),(.int .i64 7),(.int .i64 5)])),(.list (.ints .i64 [(-1),(-1),1,1,(-1),(-1),1,1]))],(.tup [(.row 0 0),(.int .i64 6),(.int .i64 0)]),(some ⟨3,1,(.ints .i64 [1,0])⟩)⟩
theorem ZxO:Zai Try.prog aw58.f aw58.args aw58.r aw58.fr:=Zab (n:=100000) (l:=[aw11,aw22,aw57]) follows Zac ⟨Zr8,⟨ZyN,⟨Zzb,trivial⟩⟩⟩ (by kernel_rfl)
def aw59:Fact:=⟨60,[(.int .i64 1)],(.row 0 0),(some ⟨3,1,(.ints .i64 [0,0,0,0,0,0,0,0,0,0,0,0,1])⟩)⟩
theorem Zy5:Zai Try.prog aw59.f aw59.args aw59.r aw59.fr:=Zab (n:=100000) (l:=[]) follows Zac trivial (by kernel_rfl)
def aw60:Fact:=⟨91,[(.int .i64 1),(.int .i64 1),(.int .i64 3)],(.bool true),none⟩
theorem ZAb:Zai Try.prog aw60.f aw60.args aw60.r aw60.fr:=Zab (n:=100000) (l:=[]) follows Zac trivial (by kernel_rfl)
def aw61:Fact:=⟨73,[(.int .i64 1)],(.int .i64 0),none⟩
theorem Zzx:Zai Try.prog aw61.f aw61.args aw61.r aw61.fr:=Zab (n:=100000) (l:=[aw60,aw9]) follows Zac ⟨ZAb,⟨Zjr,trivial⟩⟩ (by kernel_rfl)
def aw62:Fact:=⟨91,[(.int .i64 0),(.int .i64 0),(.int .i64 15)],(.bool true),none⟩
theorem Zz5:Zai Try.prog aw62.f aw62.args aw62.r aw62.fr:=Zab (n:=100000) (l:=[]) follows Zac trivial (by kernel_rfl)
def aw63:Fact:=⟨111,[(.int .i64 0),(.eptr (.int .i64 0) 0),(.eptr (.int .i64 15) 0)],(.bool false),none⟩
theorem ZxM:Zai Try.prog aw63.f aw63.args aw63.r aw63.fr:=Zab (n:=100000) (l:=[aw62]) follows Zac ⟨Zz5,trivial⟩ (by kernel_rfl)
def aw64:Fact:=⟨91,[(.int .i64 1),(.int .i64 0),(.int .i64 15)],(.bool true),none⟩
theorem ZxV:Zai Try.prog aw64.f aw64.args aw64.r aw64.fr:=Zab (n:=100000) (l:=[]) follows Zac trivial (by kernel_rfl)
def aw65:Fact:=⟨111,[(.int .i64 1),(.eptr (.int .i64 0) 0),(.eptr (.int .i64 15) 0)],(.bool false),none⟩
theorem ZyW:Zai Try.prog aw65.f aw65.args aw65.r aw65.fr:=Zab (n:=100000) (l:=[aw64]) follows Zac ⟨ZxV,trivial⟩ (by kernel_rfl)
def aw66:Fact:=⟨123,[(.list (.ints .i64 [0,0,0,0,0,0,0,0,0,0,0,0,1])),(.fn 111 [(.eptr (.int .i64 0) 0),(.eptr (.int .i64 15) 0)])],(.int .i64 (-1)),none⟩
theorem Zye:Zai Try.prog aw66.f aw66.args aw66.r aw66.fr:=Zab (n:=100000) (l:=[aw63,aw65]) follows Zac ⟨ZxM,⟨ZyW,trivial⟩⟩ (by kernel_rfl)
def aw67:Fact:=⟨110,[(.list (.ints .i64 [0,0,0,0,0,0,0,0,0,0,0,0,1])),(.fn 111 [(.eptr (.int .i64 0) 0),(.eptr (.int .i64 15) 0)])],(.bool false),none⟩
theorem Zyf:Zai Try.prog aw67.f aw67.args aw67.r aw67.fr:=Zab (n:=100000) (l:=[aw66]) follows Zac ⟨Zye,trivial⟩ (by kernel_rfl)
def aw68:Fact:=⟨70,[(.list (.ints .i64 [0,0,0,0,0,0,0,0,0,0,0,0,1])),(.int .i64 0),(.int .i64 15)],(.int .i64 0),none⟩
theorem ZAs:Zai Try.prog aw68.f aw68.args aw68.r aw68.fr:=Zab (n:=100000) (l:=[aw67,aw9]) follows Zac ⟨Zyf,⟨Zjr,trivial⟩⟩ (by kernel_rfl)
def aw69:Fact:=⟨72,[(.list (.ints .i64 [0,0]))],(.int .i64 0),none⟩
theorem ZlE:Zai Try.prog aw69.f aw69.args aw69.r aw69.fr:=Zab (n:=100000) (l:=[]) follows Zac trivial (by kernel_rfl)
def aw70:Fact:=⟨74,[(.list (.ints .i64 [0,0,0,0,0,0,0,0,0,0,0,0,1])),(.int .i64 13)],(.int .i64 0),none⟩
theorem Zyj:Zai Try.prog aw70.f aw70.args aw70.r aw70.fr:=Zab (n:=100000) (l:=[aw12,aw68,aw69]) follows Zac ⟨Zn9,⟨ZAs,⟨ZlE,trivial⟩⟩⟩ (by kernel_rfl)
def aw71:Fact:=⟨71,[(.int .i64 1),(.int .i64 2)],(.int .i64 2),none⟩
theorem ZaW:Zai Try.prog aw71.f aw71.args aw71.r aw71.fr:=Zab (n:=100000) (l:=[]) follows Zac trivial (by kernel_rfl)
def aw72:Fact:=⟨71,[(.int .i64 2),(.int .i64 2)],(.int .i64 4),none⟩
theorem ZaY:Zai Try.prog aw72.f aw72.args aw72.r aw72.fr:=Zab (n:=100000) (l:=[]) follows Zac trivial (by kernel_rfl)
def aw73:Fact:=⟨71,[(.int .i64 4),(.int .i64 2)],(.int .i64 8),none⟩
theorem Za6:Zai Try.prog aw73.f aw73.args aw73.r aw73.fr:=Zab (n:=100000) (l:=[]) follows Zac trivial (by kernel_rfl)
def aw74:Fact:=⟨71,[(.int .i64 8),(.int .i64 2)],(.int .i64 3),none⟩
theorem Zbj:Zai Try.prog aw74.f aw74.args aw74.r aw74.fr:=Zab (n:=100000) (l:=[]) follows Zac trivial (by kernel_rfl)
def aw75:Fact:=⟨71,[(.int .i64 3),(.int .i64 2)],(.int .i64 6),none⟩
theorem Zbk:Zai Try.prog aw75.f aw75.args aw75.r aw75.fr:=Zab (n:=100000) (l:=[]) follows Zac trivial (by kernel_rfl)
def aw76:Fact:=⟨71,[(.int .i64 6),(.int .i64 2)],(.int .i64 12),none⟩
theorem ZbP:Zai Try.prog aw76.f aw76.args aw76.r aw76.fr:=Zab (n:=100000) (l:=[]) follows Zac trivial (by kernel_rfl)
def aw77:Fact:=⟨71,[(.int .i64 12),(.int .i64 2)],(.int .i64 11),none⟩
theorem Zb4:Zai Try.prog aw77.f aw77.args aw77.r aw77.fr:=Zab (n:=100000) (l:=[]) follows Zac trivial (by kernel_rfl)
def aw78:Fact:=⟨71,[(.int .i64 11),(.int .i64 2)],(.int .i64 5),none⟩
theorem ZcJ:Zai Try.prog aw78.f aw78.args aw78.r aw78.fr:=Zab (n:=100000) (l:=[]) follows Zac trivial (by kernel_rfl)
def aw79:Fact:=⟨71,[(.int .i64 5),(.int .i64 2)],(.int .i64 10),none⟩
theorem Zdi:Zai Try.prog aw79.f aw79.args aw79.r aw79.fr:=Zab (n:=100000) (l:=[]) follows Zac trivial (by kernel_rfl)
def aw80:Fact:=⟨71,[(.int .i64 10),(.int .i64 2)],(.int .i64 7),none⟩
theorem Ze8:Zai Try.prog aw80.f aw80.args aw80.r aw80.fr:=Zab (n:=100000) (l:=[]) follows Zac trivial (by kernel_rfl)
def aw81:Fact:=⟨71,[(.int .i64 7),(.int .i64 2)],(.int .i64 14),none⟩
theorem ZgZ:Zai Try.prog aw81.f aw81.args aw81.r aw81.fr:=Zab (n:=100000) (l:=[]) follows Zac trivial (by kernel_rfl)
def aw82:Fact:=⟨71,[(.int .i64 14),(.int .i64 2)],(.int .i64 15),none⟩
theorem Zln:Zai Try.prog aw82.f aw82.args aw82.r aw82.fr:=Zab (n:=100000) (l:=[]) follows Zac trivial (by kernel_rfl)
def aw83:Fact:=⟨71,[(.int .i64 15),(.int .i64 2)],(.int .i64 13),none⟩
theorem ZnT:Zai Try.prog aw83.f aw83.args aw83.r aw83.fr:=Zab (n:=100000) (l:=[]) follows Zac trivial (by kernel_rfl)
def aw84:Fact:=⟨71,[(.int .i64 13),(.int .i64 2)],(.int .i64 9),none⟩
theorem Zz7:Zai Try.prog aw84.f aw84.args aw84.r aw84.fr:=Zab (n:=100000) (l:=[]) follows Zac trivial (by kernel_rfl)
def aw85:Fact:=⟨117,[(.int .i64 14)],(.int .i64 9),none⟩
theorem Ztm:Zai Try.prog aw85.f aw85.args aw85.r aw85.fr:=Zab (n:=100000) (l:=[aw71,aw72,aw73,aw74,aw75,aw76,aw77,aw78,aw79,aw80,aw81,aw82,aw83,aw84]) follows Zac ⟨ZaW,⟨ZaY,⟨Za6,⟨Zbj,⟨Zbk,⟨ZbP,⟨Zb4,⟨ZcJ,⟨Zdi,⟨Ze8,⟨ZgZ,⟨Zln,⟨ZnT,⟨Zz7,trivial⟩⟩⟩⟩⟩⟩⟩⟩⟩⟩⟩⟩⟩⟩ (by kernel_rfl)
def aw86:Fact:=⟨71,[(.int .i64 0),(.int .i64 9)],(.int .i64 0),none⟩
theorem Zn5:Zai Try.prog aw86.f aw86.args aw86.r aw86.fr:=Zab (n:=100000) (l:=[]) follows Zac trivial (by kernel_rfl)
def aw87:Fact:=⟨117,[(.int .i64 13)],(.int .i64 13),none⟩
theorem ZAi:Zai Try.prog aw87.f aw87.args aw87.r aw87.fr:=Zab (n:=100000) (l:=[aw71,aw72,aw73,aw74,aw75,aw76,aw77,aw78,aw79,aw80,aw81,aw82,aw83]) follows Zac ⟨ZaW,⟨ZaY,⟨Za6,⟨Zbj,⟨Zbk,⟨ZbP,⟨Zb4,⟨ZcJ,⟨Zdi,⟨Ze8,⟨ZgZ,⟨Zln,⟨ZnT,trivial⟩⟩⟩⟩⟩⟩⟩⟩⟩⟩⟩⟩⟩ (by kernel_rfl)
def aw88:Fact:=⟨71,[(.int .i64 0),(.int .i64 13)],(.int .i64 0),none⟩
theorem Ztw:Zai Try.prog aw88.f aw88.args aw88.r aw88.fr:=Zab (n:=100000) (l:=[]) follows Zac trivial (by kernel_rfl)
def aw89:Fact:=⟨117,[(.int .i64 12)],(.int .i64 15),none⟩
theorem Zs0:Zai Try.prog aw89.f aw89.args aw89.r aw89.fr:=Zab (n:=100000) (l:=[aw71,aw72,aw73,aw74,aw75,aw76,aw77,aw78,aw79,aw80,aw81,aw82]) follows Zac ⟨ZaW,⟨ZaY,⟨Za6,⟨Zbj,⟨Zbk,⟨ZbP,⟨Zb4,⟨ZcJ,⟨Zdi,⟨Ze8,⟨ZgZ,⟨Zln,trivial⟩⟩⟩⟩⟩⟩⟩⟩⟩⟩⟩⟩ (by kernel_rfl)
def aw90:Fact:=⟨71,[(.int .i64 0),(.int .i64 15)],(.int .i64 0),none⟩
theorem Zss:Zai Try.prog aw90.f aw90.args aw90.r aw90.fr:=Zab (n:=100000) (l:=[]) follows Zac trivial (by kernel_rfl)
def aw91:Fact:=⟨117,[(.int .i64 11)],(.int .i64 14),none⟩
theorem Zyx:Zai Try.prog aw91.f aw91.args aw91.r aw91.fr:=Zab (n:=100000) (l:=[aw71,aw72,aw73,aw74,aw75,aw76,aw77,aw78,aw79,aw80,aw81]) follows Zac ⟨ZaW,⟨ZaY,⟨Za6,⟨Zbj,⟨Zbk,⟨ZbP,⟨Zb4,⟨ZcJ,⟨Zdi,⟨Ze8,⟨ZgZ,trivial⟩⟩⟩⟩⟩⟩⟩⟩⟩⟩⟩ (by kernel_rfl)
def aw92:Fact:=⟨71,[(.int .i64 0),(.int .i64 14)],(.int .i64 0),none⟩
theorem Zn6:Zai Try.prog aw92.f aw92.args aw92.r aw92.fr:=Zab (n:=100000) (l:=[]) follows Zac trivial (by kernel_rfl)
def aw93:Fact:=⟨117,[(.int .i64 10)],(.int .i64 7),none⟩
theorem Ztl:Zai Try.prog aw93.f aw93.args aw93.r aw93.fr:=Zab (n:=100000) (l:=[aw71,aw72,aw73,aw74,aw75,aw76,aw77,aw78,aw79,aw80]) follows Zac ⟨ZaW,⟨ZaY,⟨Za6,⟨Zbj,⟨Zbk,⟨ZbP,⟨Zb4,⟨ZcJ,⟨Zdi,⟨Ze8,trivial⟩⟩⟩⟩⟩⟩⟩⟩⟩⟩ (by kernel_rfl)
def aw94:Fact:=⟨71,[(.int .i64 0),(.int .i64 7)],(.int .i64 0),none⟩
theorem ZtK:Zai Try.prog aw94.f aw94.args aw94.r aw94.fr:=Zab (n:=100000) (l:=[]) follows Zac trivial (by kernel_rfl)
def aw95:Fact:=⟨117,[(.int .i64 9)],(.int .i64 10),none⟩
theorem Zyw:Zai Try.prog aw95.f aw95.args aw95.r aw95.fr:=Zab (n:=100000) (l:=[aw71,aw72,aw73,aw74,aw75,aw76,aw77,aw78,aw79]) follows Zac ⟨ZaW,⟨ZaY,⟨Za6,⟨Zbj,⟨Zbk,⟨ZbP,⟨Zb4,⟨ZcJ,⟨Zdi,trivial⟩⟩⟩⟩⟩⟩⟩⟩⟩ (by kernel_rfl)
def aw96:Fact:=⟨71,[(.int .i64 0),(.int .i64 10)],(.int .i64 0),none⟩
theorem Zth:Zai Try.prog aw96.f aw96.args aw96.r aw96.fr:=Zab (n:=100000) (l:=[]) follows Zac trivial (by kernel_rfl)
def aw97:Fact:=⟨117,[(.int .i64 8)],(.int .i64 5),none⟩
theorem ZtJ:Zai Try.prog aw97.f aw97.args aw97.r aw97.fr:=Zab (n:=100000) (l:=[aw71,aw72,aw73,aw74,aw75,aw76,aw77,aw78]) follows Zac ⟨ZaW,⟨ZaY,⟨Za6,⟨Zbj,⟨Zbk,⟨ZbP,⟨Zb4,⟨ZcJ,trivial⟩⟩⟩⟩⟩⟩⟩⟩ (by kernel_rfl)
def aw98:Fact:=⟨71,[(.int .i64 0),(.int .i64 5)],(.int .i64 0),none⟩
theorem Ztr:Zai Try.prog aw98.f aw98.args aw98.r aw98.fr:=Zab (n:=100000) (l:=[]) follows Zac trivial (by kernel_rfl)
def aw99:Fact:=⟨117,[(.int .i64 7)],(.int .i64 11),none⟩
theorem Zx0:Zai Try.prog aw99.f aw99.args aw99.r aw99.fr:=Zab (n:=100000) (l:=[aw71,aw72,aw73,aw74,aw75,aw76,aw77]) follows Zac ⟨ZaW,⟨ZaY,⟨Za6,⟨Zbj,⟨Zbk,⟨ZbP,⟨Zb4,trivial⟩⟩⟩⟩⟩⟩⟩ (by kernel_rfl)
def aw100:Fact:=⟨71,[(.int .i64 0),(.int .i64 11)],(.int .i64 0),none⟩
theorem ZoH:Zai Try.prog aw100.f aw100.args aw100.r aw100.fr:=Zab (n:=100000) (l:=[]) follows Zac trivial (by kernel_rfl)
def aw101:Fact:=⟨117,[(.int .i64 6)],(.int .i64 12),none⟩
theorem Zp0:Zai Try.prog aw101.f aw101.args aw101.r aw101.fr:=Zab (n:=100000) (l:=[aw71,aw72,aw73,aw74,aw75,aw76]) follows Zac ⟨ZaW,⟨ZaY,⟨Za6,⟨Zbj,⟨Zbk,⟨ZbP,trivial⟩⟩⟩⟩⟩⟩ (by kernel_rfl)
def aw102:Fact:=⟨71,[(.int .i64 0),(.int .i64 12)],(.int .i64 0),none⟩
theorem ZoN:Zai Try.prog aw102.f aw102.args aw102.r aw102.fr:=Zab (n:=100000) (l:=[]) follows Zac trivial (by kernel_rfl)
def aw103:Fact:=⟨117,[(.int .i64 5)],(.int .i64 6),none⟩
theorem Zu9:Zai Try.prog aw103.f aw103.args aw103.r aw103.fr:=Zab (n:=100000) (l:=[aw71,aw72,aw73,aw74,aw75]) follows Zac ⟨ZaW,⟨ZaY,⟨Za6,⟨Zbj,⟨Zbk,trivial⟩⟩⟩⟩⟩ (by kernel_rfl)
def aw104:Fact:=⟨71,[(.int .i64 0),(.int .i64 6)],(.int .i64 0),none⟩
theorem ZpC:Zai Try.prog aw104.f aw104.args aw104.r aw104.fr:=Zab (n:=100000) (l:=[]) follows Zac trivial (by kernel_rfl)
def aw105:Fact:=⟨117,[(.int .i64 4)],(.int .i64 3),none⟩
theorem Zpj:Zai Try.prog aw105.f aw105.args aw105.r aw105.fr:=Zab (n:=100000) (l:=[aw71,aw72,aw73,aw74]) follows Zac ⟨ZaW,⟨ZaY,⟨Za6,⟨Zbj,trivial⟩⟩⟩⟩ (by kernel_rfl)
def aw106:Fact:=⟨71,[(.int .i64 0),(.int .i64 3)],(.int .i64 0),none⟩
theorem ZuF:Zai Try.prog aw106.f aw106.args aw106.r aw106.fr:=Zab (n:=100000) (l:=[]) follows Zac trivial (by kernel_rfl)
def aw107:Fact:=⟨117,[(.int .i64 3)],(.int .i64 8),none⟩
theorem Zvw:Zai Try.prog aw107.f aw107.args aw107.r aw107.fr:=Zab (n:=100000) (l:=[aw71,aw72,aw73]) follows Zac ⟨ZaW,⟨ZaY,⟨Za6,trivial⟩⟩⟩ (by kernel_rfl)
def aw108:Fact:=⟨71,[(.int .i64 0),(.int .i64 8)],(.int .i64 0),none⟩
theorem Zo5:Zai Try.prog aw108.f aw108.args aw108.r aw108.fr:=Zab (n:=100000) (l:=[]) follows Zac trivial (by kernel_rfl)
def aw109:Fact:=⟨117,[(.int .i64 2)],(.int .i64 4),none⟩
theorem Zlw:Zai Try.prog aw109.f aw109.args aw109.r aw109.fr:=Zab (n:=100000) (l:=[aw71,aw72]) follows Zac ⟨ZaW,⟨ZaY,trivial⟩⟩ (by kernel_rfl)
def aw110:Fact:=⟨71,[(.int .i64 1),(.int .i64 4)],(.int .i64 4),none⟩
theorem Zpi:Zai Try.prog aw110.f aw110.args aw110.r aw110.fr:=Zab (n:=100000) (l:=[]) follows Zac trivial (by kernel_rfl)
def aw111:Fact:=⟨117,[(.int .i64 1)],(.int .i64 2),none⟩
theorem Zpp:Zai Try.prog aw111.f aw111.args aw111.r aw111.fr:=Zab (n:=100000) (l:=[aw71]) follows Zac ⟨ZaW,trivial⟩ (by kernel_rfl)
def aw112:Fact:=⟨71,[(.int .i64 0),(.int .i64 2)],(.int .i64 0),none⟩
theorem ZpX:Zai Try.prog aw112.f aw112.args aw112.r aw112.fr:=Zab (n:=100000) (l:=[]) follows Zac trivial (by kernel_rfl)
def aw113:Fact:=⟨117,[(.int .i64 0)],(.int .i64 1),none⟩
theorem ZlQ:Zai Try.prog aw113.f aw113.args aw113.r aw113.fr:=Zab (n:=100000) (l:=[]) follows Zac trivial (by kernel_rfl)
def aw114:Fact:=⟨71,[(.int .i64 0),(.int .i64 1)],(.int .i64 0),none⟩
theorem ZoT:Zai Try.prog aw114.f aw114.args aw114.r aw114.fr:=Zab (n:=100000) (l:=[]) follows Zac trivial (by kernel_rfl)
def aw115:Fact:=⟨112,[(.agg (.ints .i64 [0,0,0,0,0,0,0,0,0,0,0,0,1,0,0])),(.int .i64 1)],(.int .i64 4),none⟩
theorem Zve:Zai Try.prog aw115.f aw115.args aw115.r aw115.fr:=Zab (n:=100000) (l:=[aw85,aw86,aw87,aw88,aw89,aw90,aw91,aw92,aw93,aw94,aw95,aw96,aw97,aw98,aw99,aw100,aw101,aw102,aw103,aw104,aw105,aw106,aw107,aw108,aw109,aw110,aw111,aw112,aw113,aw114]) follows Zac ⟨Ztm,⟨Zn5,⟨ZAi,⟨Ztw,⟨Zs0,⟨Zss,⟨Zyx,⟨Zn6,⟨Ztl,⟨ZtK,⟨Zyw,⟨Zth,⟨ZtJ,⟨Ztr,⟨Zx0,⟨ZoH,⟨Zp0,⟨ZoN,⟨Zu9,⟨ZpC,⟨Zpj,⟨ZuF,⟨Zvw,⟨Zo5,⟨Zlw,⟨Zpi,⟨Zpp,⟨ZpX,⟨ZlQ,⟨ZoT,trivial⟩⟩⟩⟩⟩⟩⟩⟩⟩⟩⟩⟩⟩⟩⟩⟩⟩⟩⟩⟩⟩⟩⟩⟩⟩⟩⟩⟩⟩⟩ (by kernel_rfl)
def aw116:Fact:=⟨117,[(.int .i64 28)],(.int .i64 13),none⟩
theorem ZuE:Zai Try.prog aw116.f aw116.args aw116.r aw116.fr:=Zab (n:=100000) (l:=[aw71,aw72,aw73,aw74,aw75,aw76,aw77,aw78,aw79,aw80,aw81,aw82,aw83]) follows Zac ⟨ZaW,⟨ZaY,⟨Za6,⟨Zbj,⟨Zbk,⟨ZbP,⟨Zb4,⟨ZcJ,⟨Zdi,⟨Ze8,⟨ZgZ,⟨Zln,⟨ZnT,trivial⟩⟩⟩⟩⟩⟩⟩⟩⟩⟩⟩⟩⟩ (by kernel_rfl)
def aw117:Fact:=⟨117,[(.int .i64 26)],(.int .i64 14),none⟩
theorem Zuf:Zai Try.prog aw117.f aw117.args aw117.r aw117.fr:=Zab (n:=100000) (l:=[aw71,aw72,aw73,aw74,aw75,aw76,aw77,aw78,aw79,aw80,aw81]) follows Zac ⟨ZaW,⟨ZaY,⟨Za6,⟨Zbj,⟨Zbk,⟨ZbP,⟨Zb4,⟨ZcJ,⟨Zdi,⟨Ze8,⟨ZgZ,trivial⟩⟩⟩⟩⟩⟩⟩⟩⟩⟩⟩ (by kernel_rfl)
def aw118:Fact:=⟨117,[(.int .i64 24)],(.int .i64 10),none⟩
theorem Zv5:Zai Try.prog aw118.f aw118.args aw118.r aw118.fr:=Zab (n:=100000) (l:=[aw71,aw72,aw73,aw74,aw75,aw76,aw77,aw78,aw79]) follows Zac ⟨ZaW,⟨ZaY,⟨Za6,⟨Zbj,⟨Zbk,⟨ZbP,⟨Zb4,⟨ZcJ,⟨Zdi,trivial⟩⟩⟩⟩⟩⟩⟩⟩⟩ (by kernel_rfl)
def aw119:Fact:=⟨117,[(.int .i64 22)],(.int .i64 11),none⟩
theorem Zwi:Zai Try.prog aw119.f aw119.args aw119.r aw119.fr:=Zab (n:=100000) (l:=[aw71,aw72,aw73,aw74,aw75,aw76,aw77]) follows Zac ⟨ZaW,⟨ZaY,⟨Za6,⟨Zbj,⟨Zbk,⟨ZbP,⟨Zb4,trivial⟩⟩⟩⟩⟩⟩⟩ (by kernel_rfl)
def aw120:Fact:=⟨117,[(.int .i64 20)],(.int .i64 6),none⟩
theorem Zvd:Zai Try.prog aw120.f aw120.args aw120.r aw120.fr:=Zab (n:=100000) (l:=[aw71,aw72,aw73,aw74,aw75]) follows Zac ⟨ZaW,⟨ZaY,⟨Za6,⟨Zbj,⟨Zbk,trivial⟩⟩⟩⟩⟩ (by kernel_rfl)
def aw121:Fact:=⟨117,[(.int .i64 18)],(.int .i64 8),none⟩
theorem Zub:Zai Try.prog aw121.f aw121.args aw121.r aw121.fr:=Zab (n:=100000) (l:=[aw71,aw72,aw73]) follows Zac ⟨ZaW,⟨ZaY,⟨Za6,trivial⟩⟩⟩ (by kernel_rfl)
def aw122:Fact:=⟨117,[(.int .i64 16)],(.int .i64 2),none⟩
theorem Zt6:Zai Try.prog aw122.f aw122.args aw122.r aw122.fr:=Zab (n:=100000) (l:=[aw71]) follows Zac ⟨ZaW,trivial⟩ (by kernel_rfl)
def aw123:Fact:=⟨71,[(.int .i64 1),(.int .i64 3)],(.int .i64 3),none⟩
theorem Zu0:Zai Try.prog aw123.f aw123.args aw123.r aw123.fr:=Zab (n:=100000) (l:=[]) follows Zac trivial (by kernel_rfl)
def aw124:Fact:=⟨71,[(.int .i64 0),(.int .i64 4)],(.int .i64 0),none⟩
theorem Zui:Zai Try.prog aw124.f aw124.args aw124.r aw124.fr:=Zab (n:=100000) (l:=[]) follows Zac trivial (by kernel_rfl)
def aw125:Fact:=⟨112,[(.agg (.ints .i64 [0,0,0,0,0,0,0,0,0,0,0,0,1,0,0])),(.int .i64 2)],(.int .i64 3),none⟩
theorem Zu7:Zai Try.prog aw125.f aw125.args aw125.r aw125.fr:=Zab (n:=100000) (l:=[aw116,aw88,aw117,aw92,aw118,aw96,aw119,aw100,aw120,aw104,aw121,aw108,aw122,aw112,aw85,aw86,aw89,aw90,aw93,aw94,aw97,aw98,aw101,aw102,aw105,aw123,aw109,aw124,aw113,aw114]) follows Zac ⟨ZuE,⟨Ztw,⟨Zuf,⟨Zn6,⟨Zv5,⟨Zth,⟨Zwi,⟨ZoH,⟨Zvd,⟨ZpC,⟨Zub,⟨Zo5,⟨Zt6,⟨ZpX,⟨Ztm,⟨Zn5,⟨Zs0,⟨Zss,⟨Ztl,⟨ZtK,⟨ZtJ,⟨Ztr,⟨Zp0,⟨ZoN,⟨Zpj,⟨Zu0,⟨Zlw,⟨Zui,⟨ZlQ,⟨ZoT,trivial⟩⟩⟩⟩⟩⟩⟩⟩⟩⟩⟩⟩⟩⟩⟩⟩⟩⟩⟩⟩⟩⟩⟩⟩⟩⟩⟩⟩⟩⟩ (by kernel_rfl)
def aw126:Fact:=⟨75,[(.agg (.ints .i64 [0,0,0,0,0,0,0,0,0,0,0,0,1,0,0])),(.int .i64 1)],(.row 0 0),(some ⟨3,1,(.ints .i64 [4,3])⟩)⟩
theorem ZvT:Zai Try.prog aw126.f aw126.args aw126.r aw126.fr:=Zab (n:=100000) (l:=[aw115,aw125]) follows Zac ⟨Zve,⟨Zu7,trivial⟩⟩ (by kernel_rfl)
def aw127:Fact:=⟨71,[(.int .i64 2),(.int .i64 1)],(.int .i64 2),none⟩
theorem Zuq:Zai Try.prog aw127.f aw127.args aw127.r aw127.fr:=Zab (n:=100000) (l:=[]) follows Zac trivial (by kernel_rfl)
def aw128:Fact:=⟨71,[(.int .i64 2),(.int .i64 3)],(.int .i64 6),none⟩
theorem ZvP:Zai Try.prog aw128.f aw128.args aw128.r aw128.fr:=Zab (n:=100000) (l:=[]) follows Zac trivial (by kernel_rfl)
def aw129:Fact:=⟨71,[(.int .i64 2),(.int .i64 4)],(.int .i64 8),none⟩
theorem ZoP:Zai Try.prog aw129.f aw129.args aw129.r aw129.fr:=Zab (n:=100000) (l:=[]) follows Zac trivial (by kernel_rfl)
def aw130:Fact:=⟨71,[(.int .i64 2),(.int .i64 5)],(.int .i64 10),none⟩
theorem Zvv:Zai Try.prog aw130.f aw130.args aw130.r aw130.fr:=Zab (n:=100000) (l:=[]) follows Zac trivial (by kernel_rfl)
def aw131:Fact:=⟨71,[(.int .i64 2),(.int .i64 6)],(.int .i64 12),none⟩
theorem ZuC:Zai Try.prog aw131.f aw131.args aw131.r aw131.fr:=Zab (n:=100000) (l:=[]) follows Zac trivial (by kernel_rfl)
def aw132:Fact:=⟨71,[(.int .i64 2),(.int .i64 7)],(.int .i64 14),none⟩
theorem Zu1:Zai Try.prog aw132.f aw132.args aw132.r aw132.fr:=Zab (n:=100000) (l:=[]) follows Zac trivial (by kernel_rfl)
def aw133:Fact:=⟨71,[(.int .i64 2),(.int .i64 8)],(.int .i64 3),none⟩
theorem ZvC:Zai Try.prog aw133.f aw133.args aw133.r aw133.fr:=Zab (n:=100000) (l:=[]) follows Zac trivial (by kernel_rfl)
def aw134:Fact:=⟨71,[(.int .i64 2),(.int .i64 9)],(.int .i64 1),none⟩
theorem Zpl:Zai Try.prog aw134.f aw134.args aw134.r aw134.fr:=Zab (n:=100000) (l:=[]) follows Zac trivial (by kernel_rfl)
def aw135:Fact:=⟨128,[(.int .i64 2)],(.int .i64 9),none⟩
theorem ZvG:Zai Try.prog aw135.f aw135.args aw135.r aw135.fr:=Zab (n:=100000) (l:=[aw127,aw72,aw128,aw129,aw130,aw131,aw132,aw133,aw134]) follows Zac ⟨Zuq,⟨ZaY,⟨ZvP,⟨ZoP,⟨Zvv,⟨ZuC,⟨Zu1,⟨ZvC,⟨Zpl,trivial⟩⟩⟩⟩⟩⟩⟩⟩⟩ (by kernel_rfl)
def aw136:Fact:=⟨71,[(.int .i64 1),(.int .i64 9)],(.int .i64 9),none⟩
theorem ZvV:Zai Try.prog aw136.f aw136.args aw136.r aw136.fr:=Zab (n:=100000) (l:=[]) follows Zac trivial (by kernel_rfl)
def aw137:Fact:=⟨71,[(.int .i64 4),(.int .i64 9)],(.int .i64 2),none⟩
theorem ZuA:Zai Try.prog aw137.f aw137.args aw137.r aw137.fr:=Zab (n:=100000) (l:=[]) follows Zac trivial (by kernel_rfl)
def aw138:Fact:=⟨71,[(.int .i64 9),(.int .i64 4)],(.int .i64 2),none⟩
theorem Zvi:Zai Try.prog aw138.f aw138.args aw138.r aw138.fr:=Zab (n:=100000) (l:=[]) follows Zac trivial (by kernel_rfl)
def aw139:Fact:=⟨71,[(.int .i64 3),(.int .i64 1)],(.int .i64 3),none⟩
theorem Zt3:Zai Try.prog aw139.f aw139.args aw139.r aw139.fr:=Zab (n:=100000) (l:=[]) follows Zac trivial (by kernel_rfl)
def aw140:Fact:=⟨71,[(.int .i64 3),(.int .i64 3)],(.int .i64 5),none⟩
theorem Zug:Zai Try.prog aw140.f aw140.args aw140.r aw140.fr:=Zab (n:=100000) (l:=[]) follows Zac trivial (by kernel_rfl)
def aw141:Fact:=⟨71,[(.int .i64 3),(.int .i64 4)],(.int .i64 12),none⟩
theorem Zt9:Zai Try.prog aw141.f aw141.args aw141.r aw141.fr:=Zab (n:=100000) (l:=[]) follows Zac trivial (by kernel_rfl)
def aw142:Fact:=⟨71,[(.int .i64 3),(.int .i64 5)],(.int .i64 15),none⟩
theorem Zt1:Zai Try.prog aw142.f aw142.args aw142.r aw142.fr:=Zab (n:=100000) (l:=[]) follows Zac trivial (by kernel_rfl)
def aw143:Fact:=⟨71,[(.int .i64 3),(.int .i64 6)],(.int .i64 10),none⟩
theorem Zuj:Zai Try.prog aw143.f aw143.args aw143.r aw143.fr:=Zab (n:=100000) (l:=[]) follows Zac trivial (by kernel_rfl)
def aw144:Fact:=⟨71,[(.int .i64 3),(.int .i64 7)],(.int .i64 9),none⟩
theorem ZtS:Zai Try.prog aw144.f aw144.args aw144.r aw144.fr:=Zab (n:=100000) (l:=[]) follows Zac trivial (by kernel_rfl)
def aw145:Fact:=⟨71,[(.int .i64 3),(.int .i64 8)],(.int .i64 11),none⟩
theorem ZuG:Zai Try.prog aw145.f aw145.args aw145.r aw145.fr:=Zab (n:=100000) (l:=[]) follows Zac trivial (by kernel_rfl)
def aw146:Fact:=⟨71,[(.int .i64 3),(.int .i64 9)],(.int .i64 8),none⟩
theorem Zwb:Zai Try.prog aw146.f aw146.args aw146.r aw146.fr:=Zab (n:=100000) (l:=[]) follows Zac trivial (by kernel_rfl)
def aw147:Fact:=⟨71,[(.int .i64 3),(.int .i64 10)],(.int .i64 13),none⟩
theorem Zux:Zai Try.prog aw147.f aw147.args aw147.r aw147.fr:=Zab (n:=100000) (l:=[]) follows Zac trivial (by kernel_rfl)
def aw148:Fact:=⟨71,[(.int .i64 3),(.int .i64 11)],(.int .i64 14),none⟩
theorem Zv8:Zai Try.prog aw148.f aw148.args aw148.r aw148.fr:=Zab (n:=100000) (l:=[]) follows Zac trivial (by kernel_rfl)
def aw149:Fact:=⟨71,[(.int .i64 3),(.int .i64 12)],(.int .i64 7),none⟩
theorem ZuU:Zai Try.prog aw149.f aw149.args aw149.r aw149.fr:=Zab (n:=100000) (l:=[]) follows Zac trivial (by kernel_rfl)
def aw150:Fact:=⟨71,[(.int .i64 3),(.int .i64 13)],(.int .i64 4),none⟩
theorem Zvl:Zai Try.prog aw150.f aw150.args aw150.r aw150.fr:=Zab (n:=100000) (l:=[]) follows Zac trivial (by kernel_rfl)
def aw151:Fact:=⟨71,[(.int .i64 3),(.int .i64 14)],(.int .i64 1),none⟩
theorem Zo8:Zai Try.prog aw151.f aw151.args aw151.r aw151.fr:=Zab (n:=100000) (l:=[]) follows Zac trivial (by kernel_rfl)
def aw152:Fact:=⟨128,[(.int .i64 3)],(.int .i64 14),none⟩
theorem Zvk:Zai Try.prog aw152.f aw152.args aw152.r aw152.fr:=Zab (n:=100000) (l:=[aw139,aw75,aw140,aw141,aw142,aw143,aw144,aw145,aw146,aw147,aw148,aw149,aw150,aw151]) follows Zac ⟨Zt3,⟨Zbk,⟨Zug,⟨Zt9,⟨Zt1,⟨Zuj,⟨ZtS,⟨ZuG,⟨Zwb,⟨Zux,⟨Zv8,⟨ZuU,⟨Zvl,⟨Zo8,trivial⟩⟩⟩⟩⟩⟩⟩⟩⟩⟩⟩⟩⟩⟩ (by kernel_rfl)
def aw153:Fact:=⟨71,[(.int .i64 11),(.int .i64 14)],(.int .i64 8),none⟩
theorem Zwd:Zai Try.prog aw153.f aw153.args aw153.r aw153.fr:=Zab (n:=100000) (l:=[]) follows Zac trivial (by kernel_rfl)
def aw154:Fact:=⟨71,[(.int .i64 8),(.int .i64 9)],(.int .i64 4),none⟩
theorem Zwe:Zai Try.prog aw154.f aw154.args aw154.r aw154.fr:=Zab (n:=100000) (l:=[]) follows Zac trivial (by kernel_rfl)
def aw155:Fact:=⟨92,[(.agg (.ints .i64 [0,0,0,0,0,0,0,0,0,0,0,0,1,0,0])),(.int .i64 1),(.list (.ints .i64 [13,14]))],(.tup [(.agg (.ints .i64 [0,0,0,0,0,0,0,0,0,0,0,0,1,6,8])),(.bool true)]),none⟩
theorem ZtO:Zai Try.prog aw155.f aw155.args aw155.r aw155.fr:=Zab (n:=100000) (l:=[aw126,aw111,aw113,aw109,aw135,aw134,aw136,aw137,aw110,aw138,aw129,aw152,aw92,aw151,aw153,aw86,aw154]) follows Zac ⟨ZvT,⟨Zpp,⟨ZlQ,⟨Zlw,⟨ZvG,⟨Zpl,⟨ZvV,⟨ZuA,⟨Zpi,⟨Zvi,⟨ZoP,⟨Zvk,⟨Zn6,⟨Zo8,⟨Zwd,⟨Zn5,⟨Zwe,trivial⟩⟩⟩⟩⟩⟩⟩⟩⟩⟩⟩⟩⟩⟩⟩⟩⟩ (by kernel_rfl)
def aw156:Fact:=⟨76,[(.int .i64 1),(.list (.ints .i64 [0,0,0,0,0,0,0,0,0,0,0,0,1]))],(.agg (.ints .i64 [0,0,0,0,0,0,0,0,0,0,0,0,1,6,8])),none⟩
theorem ZtZ:Zai Try.prog aw156.f aw156.args aw156.r aw156.fr:=Zab (n:=100000) (l:=[aw155]) follows Zac ⟨ZtO,trivial⟩ (by kernel_rfl)
def aw157:Fact:=⟨62,[],(.agg (.gen [(.int .i64 3),(.list (.gen [(.list (.ints .i64 [0,1])),(.list (.ints .i64 [1,2]))]))])),none⟩
theorem Zvr:Zai Try.prog aw157.f aw157.args aw157.r aw157.fr:=Zab (n:=100000) (l:=[]) follows Zac trivial (by kernel_rfl)
def aw158:Fact:=⟨91,[(.int .i64 3),(.int .i64 1),(.int .i64 24)],(.bool true),none⟩
theorem Zu6:Zai Try.prog aw158.f aw158.args aw158.r aw158.fr:=Zab (n:=100000) (l:=[]) follows Zac trivial (by kernel_rfl)
def aw159:Fact:=⟨91,[(.int .i64 0),(.int .i64 0),(.int .i64 2)],(.bool true),none⟩
theorem ZvQ:Zai Try.prog aw159.f aw159.args aw159.r aw159.fr:=Zab (n:=100000) (l:=[]) follows Zac trivial (by kernel_rfl)
def aw160:Fact:=⟨85,[(.bool true),(.int .i64 6)],(.int .i64 0),none⟩
theorem Zuy:Zai Try.prog aw160.f aw160.args aw160.r aw160.fr:=Zab (n:=100000) (l:=[]) follows Zac trivial (by kernel_rfl)
def aw161:Fact:=⟨85,[(.bool true),(.int .i64 9)],(.int .i64 0),none⟩
theorem Zuk:Zai Try.prog aw161.f aw161.args aw161.r aw161.fr:=Zab (n:=100000) (l:=[]) follows Zac trivial (by kernel_rfl)
def aw162:Fact:=⟨91,[(.int .i64 1),(.int .i64 0),(.int .i64 2)],(.bool true),none⟩
theorem Zun:Zai Try.prog aw162.f aw162.args aw162.r aw162.fr:=Zab (n:=100000) (l:=[]) follows Zac trivial (by kernel_rfl)
def aw163:Fact:=⟨91,[(.int .i64 2),(.int .i64 0),(.int .i64 2)],(.bool true),none⟩
theorem Zv7:Zai Try.prog aw163.f aw163.args aw163.r aw163.fr:=Zab (n:=100000) (l:=[]) follows Zac trivial (by kernel_rfl)
def aw164:Fact:=⟨132,[(.agg (.gen [(.int .i64 3),(.list (.gen [(.list (.ints .i64 [0,1])),(.list (.ints .i64 [1,2]))]))]))],(.tup [(.int .i64 0),(.int .i64 0)]),none⟩
theorem Zv6:Zai Try.prog aw164.f aw164.args aw164.r aw164.fr:=Zab (n:=100000) (l:=[aw158,aw9,aw13,aw69,aw159,aw160,aw161,aw162,aw163]) follows Zac ⟨Zu6,⟨Zjr,⟨ZrT,⟨ZlE,⟨ZvQ,⟨Zuy,⟨Zuk,⟨Zun,⟨Zv7,trivial⟩⟩⟩⟩⟩⟩⟩⟩⟩ (by kernel_rfl)
def aw165:Fact:=⟨120,[(.agg (.gen [(.int .i64 3),(.list (.gen [(.list (.ints .i64 [0,1])),(.list (.ints .i64 [1,2]))]))]))],(.int .i64 0),none⟩
theorem Zv3:Zai Try.prog aw165.f aw165.args aw165.r aw165.fr:=Zab (n:=100000) (l:=[aw164]) follows Zac ⟨Zv6,trivial⟩ (by kernel_rfl)
def aw166:Fact:=⟨91,[(.int .i64 1),(.int .i64 0),(.int .i64 1)],(.bool true),none⟩
theorem Zum:Zai Try.prog aw166.f aw166.args aw166.r aw166.fr:=Zab (n:=100000) (l:=[]) follows Zac trivial (by kernel_rfl)
def aw167:Fact:=⟨111,[(.int .i64 1),(.eptr (.int .i64 0) 0),(.eptr (.int .i64 1) 0)],(.bool false),none⟩
theorem Zv9:Zai Try.prog aw167.f aw167.args aw167.r aw167.fr:=Zab (n:=100000) (l:=[aw166]) follows Zac ⟨Zum,trivial⟩ (by kernel_rfl)
def aw168:Fact:=⟨91,[(.int .i64 0),(.int .i64 0),(.int .i64 1)],(.bool true),none⟩
theorem ZuQ:Zai Try.prog aw168.f aw168.args aw168.r aw168.fr:=Zab (n:=100000) (l:=[]) follows Zac trivial (by kernel_rfl)
def aw169:Fact:=⟨111,[(.int .i64 0),(.eptr (.int .i64 0) 0),(.eptr (.int .i64 1) 0)],(.bool false),none⟩
theorem ZvK:Zai Try.prog aw169.f aw169.args aw169.r aw169.fr:=Zab (n:=100000) (l:=[aw168]) follows Zac ⟨ZuQ,trivial⟩ (by kernel_rfl)
def aw170:Fact:=⟨123,[(.list (.ints .i64 [1,0,0])),(.fn 111 [(.eptr (.int .i64 0) 0),(.eptr (.int .i64 1) 0)])],(.int .i64 (-1)),none⟩
theorem ZtQ:Zai Try.prog aw170.f aw170.args aw170.r aw170.fr:=Zab (n:=100000) (l:=[aw167,aw169]) follows Zac ⟨Zv9,⟨ZvK,trivial⟩⟩ (by kernel_rfl)
def aw171:Fact:=⟨110,[(.list (.ints .i64 [1,0,0])),(.fn 111 [(.eptr (.int .i64 0) 0),(.eptr (.int .i64 1) 0)])],(.bool false),none⟩
theorem ZuN:Zai Try.prog aw171.f aw171.args aw171.r aw171.fr:=Zab (n:=100000) (l:=[aw170]) follows Zac ⟨ZtQ,trivial⟩ (by kernel_rfl)
def aw172:Fact:=⟨70,[(.list (.ints .i64 [1,0,0])),(.int .i64 0),(.int .i64 1)],(.int .i64 0),none⟩
theorem Zuo:Zai Try.prog aw172.f aw172.args aw172.r aw172.fr:=Zab (n:=100000) (l:=[aw171,aw9]) follows Zac ⟨ZuN,⟨Zjr,trivial⟩⟩ (by kernel_rfl)
def aw173:Fact:=⟨103,[(.agg (.gen [(.int .i64 3),(.list (.gen [(.list (.ints .i64 [0,1])),(.list (.ints .i64 [1,2]))]))])),(.list (.ints .i64 [1,0,0]))],(.int .i64 0),none⟩
theorem Zwh:Zai Try.prog aw173.f aw173.args aw173.r aw173.fr:=Zab (n:=100000) (l:=[aw165,aw12,aw172,aw21]) follows Zac ⟨Zv3,⟨Zn9,⟨Zuo,⟨ZsX,trivial⟩⟩⟩⟩ (by kernel_rfl)
def aw174:Fact:=⟨91,[(.int .i64 5),(.int .i64 0),(.int .i64 30)],(.bool true),none⟩
theorem ZuK:Zai Try.prog aw174.f aw174.args aw174.r aw174.fr:=Zab (n:=100000) (l:=[]) follows Zac trivial (by kernel_rfl)
def aw175:Fact:=⟨104,[(.list (.ints .i64 [1,0,0]))],(.row 0 0),(some ⟨3,1,(.ints .i64 [1,0,0])⟩)⟩
theorem ZpY:Zai Try.prog aw175.f aw175.args aw175.r aw175.fr:=Zoj _ (by decide)
def aw176:Fact:=⟨105,[(.agg (.gen [(.int .i64 3),(.list (.gen [(.list (.ints .i64 [0,1])),(.list (.ints .i64 [1,2]))]))])),(.list (.ints .i64 [1,0,0]))],(.row 0 0),(some ⟨3,1,(.ints .i64 [0])⟩)⟩
theorem Zp3:Zai Try.prog aw176.f aw176.args aw176.r aw176.fr:=Zab (n:=100000) (l:=[]) follows Zac trivial (by kernel_rfl)
def aw177:Fact:=⟨133,[(.list (.ints .i64 [0])),(.int .i64 0)],(.int .i64 0),none⟩
theorem ZvZ:Zai Try.prog aw177.f aw177.args aw177.r aw177.fr:=Zab (n:=100000) (l:=[]) follows Zac trivial (by kernel_rfl)
def aw178:Fact:=⟨121,[(.list (.ints .i64 [0])),(.int .i64 0)],(.bool true),none⟩
theorem ZuT:Zai Try.prog aw178.f aw178.args aw178.r aw178.fr:=Zab (n:=100000) (l:=[aw177]) follows Zac ⟨ZvZ,trivial⟩ (by kernel_rfl)
def aw179:Fact:=⟨133,[(.list (.ints .i64 [0])),(.int .i64 1)],(.int .i64 (-1)),none⟩
theorem Zul:Zai Try.prog aw179.f aw179.args aw179.r aw179.fr:=Zab (n:=100000) (l:=[]) follows Zac trivial (by kernel_rfl)
def aw180:Fact:=⟨121,[(.list (.ints .i64 [0])),(.int .i64 1)],(.bool false),none⟩
theorem Zu3:Zai Try.prog aw180.f aw180.args aw180.r aw180.fr:=Zab (n:=100000) (l:=[aw179]) follows Zac ⟨Zul,trivial⟩ (by kernel_rfl)
def aw181:Fact:=⟨106,[(.agg (.gen [(.int .i64 3),(.list (.gen [(.list (.ints .i64 [0,1])),(.list (.ints .i64 [1,2]))]))])),(.list (.ints .i64 [1,0,0]))],(.row 0 0),(some ⟨3,1,(.ints .i64 [0,0,0])⟩)⟩
theorem Zwk:Zai Try.prog aw181.f aw181.args aw181.r aw181.fr:=Zab (n:=100000) (l:=[aw176,aw178,aw180,aw175]) follows Zac ⟨Zp3,⟨ZuT,⟨Zu3,⟨ZpY,trivial⟩⟩⟩⟩ (by kernel_rfl)
def aw182:Fact:=⟨105,[(.agg (.gen [(.int .i64 3),(.list (.gen [(.list (.ints .i64 [0,1])),(.list (.ints .i64 [1,2]))]))])),(.list (.ints .i64 [0,0,0]))], .nils,none⟩
theorem Zvn:Zai Try.prog aw182.f aw182.args aw182.r aw182.fr:=Zab (n:=100000) (l:=[]) follows Zac trivial (by kernel_rfl)
def aw183:Fact:=⟨61,[(.agg (.gen [(.int .i64 3),(.list (.gen [(.list (.ints .i64 [0,1])),(.list (.ints .i64 [1,2]))]))])),(.list (.ints .i64 [1,0,0])),(.int .i64 5)],(.tup [(.row 0 0),(.int .i64 1),(.int .i64 0)]),(some ⟨3,1,(.ints .i64 [0,0,0])⟩)⟩
theorem ZvR:Zai Try.prog aw183.f aw183.args aw183.r aw183.fr:=Zab (n:=100000) (l:=[aw173,aw174,aw9,aw69,aw175,aw176,aw181,aw182]) follows Zac ⟨Zwh,⟨ZuK,⟨Zjr,⟨ZlE,⟨ZpY,⟨Zp3,⟨Zwk,⟨Zvn,trivial⟩⟩⟩⟩⟩⟩⟩⟩ (by kernel_rfl)
def aw184:Fact:=⟨83,[(.list (.ints .i64 [100000])),(.int .i64 4)],(.row 0 0),(some ⟨3,1,(.ints .i64 [100000,100000,100000,100000])⟩)⟩
theorem ZtY:Zai Try.prog aw184.f aw184.args aw184.r aw184.fr:=Zab (n:=100000) (l:=[aw26]) follows Zac ⟨ZsU,trivial⟩ (by kernel_rfl)
def aw185:Fact:=⟨81,[(.int .i64 0),(.int .i64 1),(.eptr (.agg (.gen [(.int .i64 2),(.int .i64 7),(.int .i64 5)])) 0)],(.tup [(.int .i64 2),(.int .i64 2)]),none⟩
theorem Zvz:Zai Try.prog aw185.f aw185.args aw185.r aw185.fr:=Zab (n:=100000) (l:=[aw47]) follows Zac ⟨Zs5,trivial⟩ (by kernel_rfl)
def aw186:Fact:=⟨81,[(.int .i64 1),(.int .i64 0),(.eptr (.agg (.gen [(.int .i64 2),(.int .i64 7),(.int .i64 5)])) 0)],(.tup [(.int .i64 0),(.int .i64 2)]),none⟩
theorem Zud:Zai Try.prog aw186.f aw186.args aw186.r aw186.fr:=Zab (n:=100000) (l:=[aw35]) follows Zac ⟨Ztf,trivial⟩ (by kernel_rfl)
def aw187:Fact:=⟨81,[(.int .i64 1),(.int .i64 1),(.eptr (.agg (.gen [(.int .i64 2),(.int .i64 7),(.int .i64 5)])) 0)],(.tup [(.int .i64 2),(.int .i64 0)]),none⟩
theorem ZuO:Zai Try.prog aw187.f aw187.args aw187.r aw187.fr:=Zab (n:=100000) (l:=[aw50]) follows Zac ⟨Zre,trivial⟩ (by kernel_rfl)
def aw188:Fact:=⟨81,[(.int .i64 2),(.int .i64 0),(.eptr (.agg (.gen [(.int .i64 2),(.int .i64 7),(.int .i64 5)])) 0)],(.tup [(.int .i64 1),(.int .i64 1)]),none⟩
theorem ZtR:Zai Try.prog aw188.f aw188.args aw188.r aw188.fr:=Zab (n:=100000) (l:=[aw39]) follows Zac ⟨Zsj,trivial⟩ (by kernel_rfl)
def aw189:Fact:=⟨81,[(.int .i64 2),(.int .i64 1),(.eptr (.agg (.gen [(.int .i64 2),(.int .i64 7),(.int .i64 5)])) 0)],(.tup [(.int .i64 3),(.int .i64 1)]),none⟩
theorem Zwa:Zai Try.prog aw189.f aw189.args aw189.r aw189.fr:=Zab (n:=100000) (l:=[aw53]) follows Zac ⟨Ztd,trivial⟩ (by kernel_rfl)
def aw190:Fact:=⟨81,[(.int .i64 3),(.int .i64 0),(.eptr (.agg (.gen [(.int .i64 2),(.int .i64 7),(.int .i64 5)])) 0)],(.tup [(.int .i64 1),(.int .i64 1)]),none⟩
theorem Zt2:Zai Try.prog aw190.f aw190.args aw190.r aw190.fr:=Zab (n:=100000) (l:=[aw42]) follows Zac ⟨Zrw,trivial⟩ (by kernel_rfl)
def aw191:Fact:=⟨81,[(.int .i64 3),(.int .i64 1),(.eptr (.agg (.gen [(.int .i64 2),(.int .i64 7),(.int .i64 5)])) 0)],(.tup [(.int .i64 3),(.int .i64 1)]),none⟩
theorem Zvq:Zai Try.prog aw191.f aw191.args aw191.r aw191.fr:=Zab (n:=100000) (l:=[aw56]) follows Zac ⟨Ztu,trivial⟩ (by kernel_rfl)
def aw192:Fact:=⟨32,[(.agg (.gen [(.int .i64 2),(.int .i64 7),(.int .i64 5)]))],(.tup [(.int .i64 5),(.int .i64 0)]),none⟩
theorem Zvj:Zai Try.prog aw192.f aw192.args aw192.r aw192.fr:=Zab (n:=100000) (l:=[aw11,aw184,aw185,aw186,aw187,aw188,aw189,aw190,aw191]) follows Zac ⟨Zr8,⟨ZtY,⟨Zvz,⟨Zud,⟨ZuO,⟨ZtR,⟨Zwa,⟨Zt2,⟨Zvq,trivial⟩⟩⟩⟩⟩⟩⟩⟩⟩ (by kernel_rfl)
def aw193:Fact:=⟨17,[(.list (.ints .i64 [1,0])),(.list (.ints .i64 [1,0]))],(.bool true),none⟩
theorem Zt4:Zai Try.prog aw193.f aw193.args aw193.r aw193.fr:=Zab (n:=100000) (l:=[]) follows Zac trivial (by kernel_rfl)
def aw194:Fact:=⟨17,[(.list (.ints .i64 [0,0,0])),(.list (.ints .i64 [0,0,0]))],(.bool true),none⟩
theorem Zvs:Zai Try.prog aw194.f aw194.args aw194.r aw194.fr:=Zab (n:=100000) (l:=[]) follows Zac trivial (by kernel_rfl)
def aw195:Fact:=⟨12,[],(.bool true),none⟩
theorem Zut:Zai Try.prog aw195.f aw195.args aw195.r aw195.fr:=Zab (n:=100000) (l:=[aw0,aw1,aw58,aw59,aw61,aw70,aw69,aw156,aw157,aw183,aw192,aw193,aw194]) follows Zac ⟨ZET,⟨ZB5,⟨ZxO,⟨Zy5,⟨Zzx,⟨Zyj,⟨ZlE,⟨ZtZ,⟨Zvr,⟨ZvR,⟨Zvj,⟨Zt4,⟨Zvs,trivial⟩⟩⟩⟩⟩⟩⟩⟩⟩⟩⟩⟩⟩ (by kernel_rfl)
end Go.Proofs.Ytklbmkllepkjcaa
/- Contracts as a list. No condition. -/
namespace Go.Proofs.Ytklbmkllepkjcaa
def k12:Ctr:=⟨12,0,fun _ a=>match a with |[]=>some (true, .bool true,none) |_=>none⟩
theorem ZEQ:k12.OK Try.prog:=fun pa args r fr h=>by
 simp only[k12]at h
 split at h
 ·cases h
  exact Zut
 ·cases h
def J8:List Ctr:=[k12]++J7
theorem ZGi:Zaz Try.prog J8:=⟨ZEQ,ZFX⟩
end Go.Proofs.Ytklbmkllepkjcaa
/- Contracts as a list. No condition. -/
namespace Go.Proofs.Ytklbmkllepkjcaa
section
variable {C:Ctx}(hC:C.P=Try.prog)
include hC
end
theorem Zmr{x:Int}{l:List Int}(h:Zak (x::l)=0):x=0∧Zak l=0:=by
 rw[Zak]at h
 split at h
 ·exact⟨by assumption,h⟩
 ·contradiction
section
variable (m p q:Int)
def wt(s b:Int):Int:=oS m p s b+oS m q s b
def rx(s:Nat)(b:Int)(x:Int×List Int):Int×List Int:=if nxS m s b=0 then(min x.1 (x.2.getD s 0+wt m p q s b),x.2)else(x.1,x.2.set (nxS m s b).toNat (min (x.2.getD (nxS m s b).toNat 0) (x.2.getD s 0+wt m p q s b)))
end
structure OkX (m:Int) (x:Int×List Int):Prop where
 b:0≤x.1∧x.1≤100000
 l:x.2.length=stS m
 r:∀j,0≤x.2.getD j 0∧x.2.getD j 0≤100000
section
variable {C:Ctx}(hC:C.P=Try.prog)(m p q:Int)(hv:Zu4 m p q=0)
include hC hv
end
def J9:List Ctr:=J8
theorem ZGm:Zaz Try.prog J9:=ZGi
end Go.Proofs.Ytklbmkllepkjcaa
/- Contracts as a list. No condition. -/
namespace Go.Proofs.Ytklbmkllepkjcaa
@[simp] theorem ZIG (l:List AV):std.lenA l=l.length:=rfl
@[simp] theorem Zsh (l:List AV) (j:Nat):std.nthA l j=l.getD j .top:=rfl
def pR(ps:List AV)(t:Nat):List Int:=AV.toIs (ps.getD t .top)
section
variable (m p q:Int)(so:List Int)(ps:List AV)
end
structure OkP (m:Int) (so:List Int) (ps:List AV):Prop where
 n:ps.length=Zsl so+1
 l:∀t,t≤Zsl so→(pR ps t).length=stS m
 r:∀t j,t≤Zsl so→ -1000000≤(pR ps t).getD j 0∧(pR ps t).getD j 0≤1000000
theorem ZCb{l:List Int}{a b:Int}(h:Zcs l a b=0)(h0:a≤0∧0≤b)(j:Nat):a≤l.getD j 0∧l.getD j 0≤b:=by
 unfold Zcs at h
 split at h
 ·rename_i hall
  by_cases hk:j<l.length
  ·have:=List.all_eq_true.1 hall _ (ZbC (d:=0) hk)
   simpa[Zao]using of_decide_eq_true this
  ·rw[List.getD_eq_getElem?_getD,List.getElem?_eq_none (by omega)];simpa using h0
 ·cases h
section
variable {C:Ctx}(hC:C.P=Try.prog)(m p q:Int)(so:List Int)(ps:List AV)(h:OkC m p q so)(hp:OkP m so ps)
include hC h hp
end
section
variable {C:Ctx}(hC:C.P=Try.prog)(m p q:Int)(so:List Int)(ps:List AV)(h:OkC m p q so)(hn:ps.length=Zsl so+1)(hrl:∀t,(pR ps t).length≤1000000)
include hC h hn hrl
end
def rlB(ps:List AV):Prop:=∀t,(pR ps t).length≤1000000
section
variable {C:Ctx}(hC:C.P=Try.prog)(m p q:Int)(so:List Int)(ps:List AV)(h:OkC m p q so)(hp:OkP m so ps)
include hC h hp
end
theorem ZAt{l:List Int}{a b:Int}(h:∀j,j<l.length→Zao (l.getD j 0) a b=true):Zcs l a b=0:=by
 unfold Zcs
 rw[if_pos]
 refine List.all_eq_true.2 fun x hx=>?_
 obtain⟨j,hj,rfl⟩:=List.mem_iff_getElem.1 hx
 have:=h j hj
 rwa[List.getD_eq_getElem?_getD,List.getElem?_eq_getElem hj]at this
section
variable {C:Ctx}(hC:C.P=Try.prog)(m p q:Int)(so:List Int)(ps:List AV)(h:OkC m p q so)(hn:ps.length=Zsl so+1)
include hC h hn
end
section
variable {C:Ctx}(hC:C.P=Try.prog)(ps:List AV)(hl:ps.length≤1000000)(hrl:rlB ps)
include hC hl hrl
end
def Ja:List Ctr:=J9
theorem ZHB:Zaz Try.prog Ja:=ZGm
end Go.Proofs.Ytklbmkllepkjcaa
/- Contracts as a list. No condition. -/
namespace Go.Proofs.Ytklbmkllepkjcaa
def k14v:Ctr:=⟨14,0,fun _ a=>match a with |[.list (.ints .i64 xs)]=>some (decide (xs.length≤1000000), .list (.ints .i64 xs),Zvc) |_=>none⟩
theorem ZzB:k14v.OK Try.prog:=fun pa args r fr h=>by
 simp only[k14v]at h
 split at h
 ·simp only[Option.some.injEq,Prod.mk.injEq,decide_eq_true_eq]at h
  obtain⟨h0,rfl,rfl⟩:=h
  exact ZxU (Zmq _ h0) rfl rfl
 ·cases h
def Jb:List Ctr:=[k14v]++Ja
theorem ZGR:Zaz Try.prog Jb:=⟨ZzB,ZHB⟩
end Go.Proofs.Ytklbmkllepkjcaa
/- The field of 16 elements. No condition. -/
namespace Go.Proofs.Ytklbmkllepkjcaa
def xt(a:Nat):Nat:=if a<8 then 2*a else(2*a) ^^^ 19
def Zar(a b:Nat):Nat:=(if b%2=1 then a else 0) ^^^ (if b/2%2=1 then xt a else 0) ^^^ (if b/4%2=1 then xt (xt a)else 0) ^^^ (if b/8%2=1 then xt (xt (xt a))else 0)
def Zbe:Nat→Nat
 |0=>1
 |n+1=>Zar (Zbe n) 2
def ZfA(a:Nat):Nat:=((List.range 16).find? fun b=>Zar a b==1).getD 0
def ZsO(p:Nat→Nat→Bool):Bool:=(List.range 16).all fun a=>(List.range 16).all fun b=>p a b
theorem ZcH{p:Nat→Nat→Bool}(h:ZsO p=true){a b:Nat}(ha:a<16)(hb:b<16):p a b=true:=
 List.all_eq_true.1 (List.all_eq_true.1 h a (List.mem_range.2 ha)) b (List.mem_range.2 hb)
def ZGM(p:Nat→Nat→Nat→Bool):Bool:=(List.range 16).all fun a=>(List.range 16).all fun b=>(List.range 16).all fun c=>p a b c
theorem Zsi{p:Nat→Nat→Nat→Bool}(h:ZGM p=true){a b c:Nat}(ha:a<16)(hb:b<16)(hc:c<16):p a b c=true:=
 List.all_eq_true.1 (List.all_eq_true.1 (List.all_eq_true.1 h a (List.mem_range.2 ha)) b (List.mem_range.2 hb)) c (List.mem_range.2 hc)
theorem Zbl{a b:Nat}(ha:a<16)(hb:b<16):Zar a b<16:=by
 have h:ZsO (fun a b=>decide (Zar a b<16))=true:=by kernel_rfl
 exact of_decide_eq_true (ZcH h ha hb)
theorem Za7{a b:Nat}(ha:a<16)(hb:b<16):Zar a b=Zar b a:=by
 have h:ZsO (fun a b=>decide (Zar a b=Zar b a))=true:=by kernel_rfl
 exact of_decide_eq_true (ZcH h ha hb)
theorem ZaI{a b c:Nat}(ha:a<16)(hb:b<16)(hc:c<16):Zar (Zar a b) c=Zar a (Zar b c):=by
 have h:ZGM (fun a b c=>decide (Zar (Zar a b) c=Zar a (Zar b c)))=true:=by kernel_rfl
 exact of_decide_eq_true (Zsi h ha hb hc)
theorem ZcL{a b c:Nat}(ha:a<16)(hb:b<16)(hc:c<16):Zar (a ^^^ b) c=Zar a c ^^^ Zar b c:=by
 have h:ZGM (fun a b c=>decide (Zar (a ^^^ b) c=Zar a c ^^^ Zar b c))=true:=by kernel_rfl
 exact of_decide_eq_true (Zsi h ha hb hc)
theorem ZbK{a:Nat}(ha:a<16):Zar a 0=0:=by
 have h:ZsO (fun a _=>decide (Zar a 0=0))=true:=by kernel_rfl
 exact of_decide_eq_true (ZcH h ha (b:=0) (by omega))
theorem Zhf{a:Nat}(ha:a<16):Zar a 1=a:=by
 have h:ZsO (fun a _=>decide (Zar a 1=a))=true:=by kernel_rfl
 exact of_decide_eq_true (ZcH h ha (b:=0) (by omega))
theorem ZbL{a b:Nat}(ha:a<16)(hb:b<16)(h0:Zar a b=0):a=0∨b=0:=by
 have h:ZsO (fun a b=>decide (Zar a b=0→a=0∨b=0))=true:=by kernel_rfl
 exact of_decide_eq_true (ZcH h ha hb) h0
theorem Zvy{a:Nat}(ha:a<16)(h0:a≠0):ZfA a<16∧Zar a (ZfA a)=1:=by
 have h:ZsO (fun a _=>decide (a≠0→ZfA a<16∧Zar a (ZfA a)=1))=true:=by kernel_rfl
 exact of_decide_eq_true (ZcH h ha (b:=0) (by omega)) h0
theorem ZbZ{a b:Nat}(ha:a<16)(hb:b<16):a ^^^ b<16:=Nat.xor_lt_two_pow (n:=4) ha hb
theorem ZbD:∀n,Zbe n<16
 |0=>by decide
 |n+1=>Zbl (ZbD n) (by decide)
theorem ZGw:Zbe 15=1:=by decide
theorem ZrR:∀m n,Zbe (m+n)=Zar (Zbe m) (Zbe n)
 |m,0=>(Zhf (ZbD m)).symm
 |m,n+1=>by rw[←Nat.add_assoc,Zbe,ZrR m n,Zbe,ZaI (ZbD m) (ZbD n) (by decide)]
theorem ZpK(n:Nat):Zbe n=Zbe (n%15):=by
 have h:∀q r,Zbe (15*q+r)=Zbe r:=by
  intro q
  induction q with
  |zero=>intro r;rw[Nat.mul_zero,Nat.zero_add]
  |succ q ih=>
   intro r
   rw[show 15*(q+1)+r=15*q+(15+r) by omega,ih,ZrR,ZGw,Za7 (by decide) (ZbD r),Zhf (ZbD r)]
 conv=>lhs;rw[←Nat.div_add_mod n 15]
 exact h _ _
theorem ZqB(n:Nat):Zbe n≠0:=by
 have h:∀r,r<15→Zbe r≠0:=by decide
 rw[ZpK];exact h _ (Nat.mod_lt _ (by decide))
theorem Zo7{i j:Nat}(hi:i<15)(hj:j<15)(h:Zbe i=Zbe j):i=j:=by
 have k:∀i,i<15→∀j,j<15→Zbe i=Zbe j→i=j:=by decide
 exact k i hi j hj h
def gM(a b:Int):Int:=((Zar a.toNat b.toNat:Nat):Int)
def gI(a:Int):Int:=((ZfA a.toNat:Nat):Int)
def elB(a:Int):Bool:=decide (0≤a∧a≤15)
end Go.Proofs.Ytklbmkllepkjcaa
/- Contracts as a list. No condition. -/
namespace Go.Proofs.Ytklbmkllepkjcaa
theorem ZlH(m:Nat)(hm:m<2^32):(BitVec.ofInt 64 (m:Int)).toNat=m:=by
 rw[BitVec.ofInt_natCast,BitVec.toNat_ofNat];exact Nat.mod_eq_of_lt (by omega)
theorem ZbS{r k:Nat}(hr:r<2^32)(hk:k<2^32):std.bits .xor .i64 (r:Int) (k:Int)=((r ^^^ k:Nat):Int):=by
 show IntKind.i64.wrap ((BitVec.ofInt 64 (r:Int) ^^^ BitVec.ofInt 64 (k:Int)).toNat:Int)=_
 rw[BitVec.toNat_xor,ZlH r hr,ZlH k hk]
 have:r ^^^ k<2^32:=Nat.xor_lt_two_pow hr hk
 rw[IntKind.wrap_i64]
 omega
theorem Zjj{r:Nat}(hr:r<2^32):std.bits .and .i64 (r:Int) 1=((r%2:Nat):Int):=by
 show IntKind.i64.wrap ((BitVec.ofInt 64 (r:Int) &&& BitVec.ofInt 64 ((1:Nat):Int)).toNat:Int)=_
 rw[BitVec.toNat_and,ZlH r hr,ZlH 1 (by omega),Nat.and_one_is_mod,IntKind.wrap_i64]
 omega
def ZyE:Nat→Nat→Nat→Nat→Nat
 |0,_,_,o=>o
 |k+1,a,b,o=>if b=0 then o else ZyE k (xt a) (b/2) (if b%2=1 then o ^^^ a else o)
theorem Zzz{a b:Nat}(ha:a<16)(hb:b<16):ZyE 4 a b 0=Zar a b:=by
 have h:ZsO (fun a b=>decide (ZyE 4 a b 0=Zar a b))=true:=by kernel_rfl
 exact of_decide_eq_true (ZcH h ha hb)
theorem ZGL{a:Nat}(ha:a<16):xt a<16:=by
 have h:ZsO (fun a _=>decide (xt a<16))=true:=by kernel_rfl
 exact of_decide_eq_true (ZcH h ha (b:=0) (by omega))
section
variable {C:Ctx}(hC:C.P=Try.prog)
include hC
theorem L71:∀(k a b o:Nat),a<16→b<2^k→k≤4→o<16→Ev C (Zij a b o) (ZfY a b o) (ZaL 71 (.int .i64 ((ZyE k a b o:Nat):Int)) none):=by
 intro k
 induction k with
 |zero=>
  intro a b o ha hb _ ho
  have:b=0:=by omega
  subst this
  refine tgo hC Zdp Zkc ?_
  simp[Zef,ZyE]
 |succ k ih=>
  intro a b o ha hb hk ho
  refine tgo hC Zdp Zkc ?_
  by_cases h0:b=0
  ·subst h0;simp[Zef,ZyE]
  ·have hb16:b<16:=by have:=Nat.pow_le_pow_right (show 0<2 by omega) hk;omega
   have hb2:b/2<2^k:=by rw[Nat.pow_succ]at hb;omega
   have e1:=Zjj (r:=b) (by omega)
   have e2:=ZbS (r:=o) (k:=a) (by omega) (by omega)
   have e3:=ZbS (r:=2*a) (k:=19) (by omega) (by omega)
   have e4:(b:Int).fdiv 2=((b/2:Nat):Int):=by rw[Int.fdiv_eq_ediv_of_nonneg _ (by omega)];rfl
   have e5:(a:Int)*2=((2*a:Nat):Int):=by omega
   have hx:=ZGL ha
   have ho2:(if b%2=1 then o ^^^ a else o)<16:=by split;exact ZbZ ho ha;exact ho
   have i:=ih (xt a) (b/2) (if b%2=1 then o ^^^ a else o) hx hb2 (by omega) ho2
   rw[ZyE,if_neg h0]
   have hp:(0:Int)<(b:Int):=by omega
   have e6:((19:Nat):Int)=19:=rfl
   rw[e6]at e3
   unfold xt at i⊢
   have e7:∀x:Nat,(((x:Nat):Int)=1)=(x=1):=fun x=>by simp;omega
   have e8:((16:Int)≤((2*a:Nat):Int))=¬(a<8):=by simp;omega
   simp only[Zef,ZHL,ZI5,ZGy,ZaO,ZzX,Zyp,e1,e2,Int.toNat_one,Int.pow_one,e4,e5,e3,e7,e8,Zv0,ZuH,decide_eq_true hp,if_true]
   have hA:AllT [Zad (Zad (decide ((0:Int)≤1)) (Nat.blt 1 64)) (std.inR .i64 ((2*a:Nat):Int))]:=by simp;omega
   have hB:AllT [Zad (decide ((0:Int)≤1)) (Nat.blt 1 64)]:=by simp
   by_cases h1:b%2=1<;>by_cases h2:a<8<;>simp only[h1,h2,decide_true,decide_false,not_true,not_false,if_true,if_false,Bool.false_eq_true]at i⊢
   all_goals first |exact⟨hA,hB,i⟩ |(refine ⟨hA,?_⟩;rw[if_pos (by simp)];exact⟨hB,i⟩)
end
def ZtW(a b:Nat):Nat→Nat→Nat→Nat
 |0,_,o=>o
 |k+1,n,o=>ZtW a b k (n+1) (if b/2^n%2=1 then o ^^^ (a*2^n)else o)
def Zy1:Nat→Nat→Nat
 |0,o=>o
 |k+1,o=>Zy1 k (if o/2^(k+4)%2=1 then o ^^^ (19*2^k)else o)
theorem ZAg{a b:Nat}(ha:a<16)(hb:b<16):Zy1 3 (ZtW a b 4 0 0)=Zar a b∧ZtW a b 4 0 0<128:=by
 have h:ZsO (fun a b=>decide (Zy1 3 (ZtW a b 4 0 0)=Zar a b∧ZtW a b 4 0 0<128))=true:=by kernel_rfl
 exact of_decide_eq_true (ZcH h ha hb)
section
variable {C:Ctx}(hC:C.P=Try.prog)
include hC
theorem D22:∀(k o:Nat),k≤3→o<128→Ev C (Zi9 o ((k:Int)+3)) (Zgy o ((k:Int)+3)) (ZaL 22 (.int .i64 ((Zy1 k o:Nat):Int)) none):=by
 intro k
 induction k with
 |zero=>
  intro o _ ho
  refine tgo hC Zdp Zk1 ?_
  simp[Zha,Zy1]
 |succ k ih=>
  intro o hk ho
  refine tgo hC Zdp Zk1 ?_
  have k1:(((k+1:Nat):Int)+3).toNat=k+4:=by omega
  have k2:(((k+1:Nat):Int)+3-4).toNat=k:=by omega
  have k3:((k+1:Nat):Int)+3-1=(k:Int)+3:=by omega
  have hp:(2:Int)^(k+4)=((2^(k+4):Nat):Int):=by rw[Int.natCast_pow];rfl
  have hp2:(19:Int)*2^k=((19*2^k:Nat):Int):=by rw[Int.natCast_mul,Int.natCast_pow];rfl
  have hk3:k=0∨k=1∨k=2:=by omega
  have h19:19*2^k<128:=by rcases hk3 with rfl |rfl |rfl<;>decide
  have e4:(o:Int).fdiv (2^(k+4))=((o/2^(k+4):Nat):Int):=by rw[hp,Int.fdiv_eq_ediv_of_nonneg _ (Int.natCast_nonneg _)];rfl
  have hd:o/2^(k+4)≤o:=Nat.div_le_self _ _
  have e1:=Zjj (r:=o/2^(k+4)) (by omega)
  have e2:=ZbS (r:=o) (k:=19*2^k) (by omega) (by omega)
  have ho2:(if o/2^(k+4)%2=1 then o ^^^ (19*2^k)else o)<128:=by split;exact Nat.xor_lt_two_pow (n:=7) ho h19;exact ho
  have i:=ih (if o/2^(k+4)%2=1 then o ^^^ (19*2^k)else o) (by omega) ho2
  rw[Zy1]
  have e7:∀x:Nat,(((x:Nat):Int)=1)=(x=1):=fun x=>by simp;omega
  have g:(4:Int)≤((k+1:Nat):Int)+3:=by omega
  have hA:AllT [Zad (decide ((0:Int)≤((k+1:Nat):Int)+3)) (Nat.blt (k+4) 64)]:=by simp;omega
  have hB:AllT [std.inR .i64 ((k:Int)+3),Zad (Zad (decide ((0:Int)≤((k+1:Nat):Int)+3-4)) (Nat.blt k 64)) (std.inR .i64 ((19*2^k:Nat):Int)),std.inR .i64 (((k+1:Nat):Int)+3-4)]:=by simp;omega
  have hD:AllT [std.inR .i64 ((k:Int)+3)]:=by simp;omega
  simp only[Zha,ZI5,ZGy,ZaO,ZmU,ZzX,Zyp,k1,k2,k3,e4,e1,hp2,e2,e7,Zv0,ZuH,decide_eq_true g,if_true]
  refine⟨hA,?_⟩
  by_cases h1:o/2^(k+4)%2=1
  ·rw[if_pos h1]at i⊢
   rw[if_pos (decide_eq_true h1)]
   exact⟨hB,i⟩
  ·rw[if_neg h1]at i⊢
   rw[if_neg (by simpa using h1)]
   exact⟨hD,i⟩
theorem U22(a b:Nat)(ha:a<16)(hb:b<16):∀(k n o:Nat),n+k=4→o<128→Zy1 3 (ZtW a b k n o)=Zar a b→ZtW a b k n o<128→Ev C (Zib a b o n) (Zg8 a b o n) (ZaL 22 (.int .i64 ((Zar a b:Nat):Int)) none):=by
 intro k
 induction k with
 |zero=>
  intro n o hn ho he hu
  rw[ZtW]at he hu
  refine tgo hC Zdp Zk4 ?_
  have i:=D22 hC 3 o (by omega) ho
  rw[he]at i
  have h4:n=4:=by omega
  subst h4
  simp[Zg9]at i⊢
  exact i
 |succ k ih=>
  intro n o hn ho he hu
  rw[ZtW]at he hu
  refine tgo hC Zdp Zk4 ?_
  have hn3:n=0∨n=1∨n=2∨n=3:=by omega
  have hp:(2:Int)^n=((2^n:Nat):Int):=by rw[Int.natCast_pow];rfl
  have hp2:(a:Int)*2^n=((a*2^n:Nat):Int):=by rw[Int.natCast_mul,Int.natCast_pow];rfl
  have h19:a*2^n<128:=by rcases hn3 with rfl |rfl |rfl |rfl<;>omega
  have e4:(b:Int).fdiv (2^n)=((b/2^n:Nat):Int):=by rw[hp,Int.fdiv_eq_ediv_of_nonneg _ (Int.natCast_nonneg _)];rfl
  have hd:b/2^n≤b:=Nat.div_le_self _ _
  have e1:=Zjj (r:=b/2^n) (by omega)
  have e2:=ZbS (r:=o) (k:=a*2^n) (by omega) (by omega)
  have ho2:(if b/2^n%2=1 then o ^^^ (a*2^n)else o)<128:=by split;exact Nat.xor_lt_two_pow (n:=7) ho h19;exact ho
  have i:=ih (n+1) (if b/2^n%2=1 then o ^^^ (a*2^n)else o) (by omega) ho2 he hu
  have e7:∀x:Nat,(((x:Nat):Int)=1)=(x=1):=fun x=>by simp;omega
  have g:(n:Int)<4:=by omega
  have hA:AllT [Zad (decide ((0:Int)≤(n:Int))) (Nat.blt n 64)]:=by simp;omega
  have hB:AllT [std.inR .i64 ((n:Int)+1),Zad (Zad (decide ((0:Int)≤(n:Int))) (Nat.blt n 64)) (std.inR .i64 ((a*2^n:Nat):Int))]:=by simp;omega
  have hD:AllT [std.inR .i64 ((n:Int)+1)]:=by simp;omega
  simp only[Zg9,ZHL,ZGy,ZaO,ZlT,ZzX,Zyp,Int.toNat_natCast,e4,e1,hp2,e2,e7,Zv0,ZuH,decide_eq_true g,if_true]
  refine⟨hA,?_⟩
  by_cases h1:b/2^n%2=1
  ·rw[if_pos h1]at i
   rw[if_pos (decide_eq_true h1)]
   exact⟨hB,i⟩
  ·rw[if_neg h1]at i
   rw[if_neg (by simpa using h1)]
   exact⟨hD,i⟩
end
theorem Zdx{a:Int}(h:elB a=true):∃n:Nat,a=n∧n<16:=by
 have:=of_decide_eq_true h
 exact⟨a.toNat,by omega,by omega⟩
theorem Zs9(a b:Int)(ha:elB a=true)(hb:elB b=true):Zai Try.prog 71 [.int .i64 a, .int .i64 b] (.int .i64 (gM a b)) none:=by
 obtain⟨m,rfl,hm⟩:=Zdx ha
 obtain⟨n,rfl,hn⟩:=Zdx hb
 refine start (ZzL m n) fun C hC=>tgo hC Zdp ZF7 ?_
 have i:=L71 hC 4 m n 0 hm (by omega) (by omega) (by omega)
 rw[Zzz hm hn]at i
 simp[ZBM,gM]at i⊢
 exact i
theorem Zrl(a b:Int)(ha:elB a=true)(hb:elB b=true):Zai Try.prog 22 [.int .i64 a, .int .i64 b] (.int .i64 (gM a b)) none:=by
 obtain⟨m,rfl,hm⟩:=Zdx ha
 obtain⟨n,rfl,hn⟩:=Zdx hb
 refine start (Zzr m n) fun C hC=>tgo hC Zdp ZHo ?_
 obtain⟨p1,p2⟩:=ZAg hm hn
 have i:=U22 hC m n hm hn 4 0 0 (by omega) (by omega) p1 p2
 simp[ZDb,gM]at i⊢
 exact i
def k71:Ctr:=⟨71,0,fun _ a=>match a with |[.int .i64 a, .int .i64 b]=>some (decide (elB a=true∧elB b=true), .int .i64 (gM a b),none) |_=>none⟩
theorem ZFv:k71.OK Try.prog:=fun pa args r fr h=>by
 simp only[k71]at h
 split at h
 ·simp only[Option.some.injEq,Prod.mk.injEq,decide_eq_true_eq]at h
  obtain⟨h0,rfl,rfl⟩:=h
  exact Zs9 _ _ h0.1 h0.2
 ·cases h
def k22:Ctr:=⟨22,0,fun _ a=>match a with |[.int .i64 a, .int .i64 b]=>some (decide (elB a=true∧elB b=true), .int .i64 (gM a b),none) |_=>none⟩
theorem ZC6:k22.OK Try.prog:=fun pa args r fr h=>by
 simp only[k22]at h
 split at h
 ·simp only[Option.some.injEq,Prod.mk.injEq,decide_eq_true_eq]at h
  obtain⟨h0,rfl,rfl⟩:=h
  exact Zrl _ _ h0.1 h0.2
 ·cases h
def Ka:List Ctr:=[k71,k22]++Jb
theorem ZgE:Zaz Try.prog Ka:=⟨ZFv,⟨ZC6,ZGR⟩⟩
end Go.Proofs.Ytklbmkllepkjcaa
/- Paths of functions, printed by the explorer (Gx). No condition. -/
namespace Go.Proofs.Ytklbmkllepkjcaa
set_option maxRecDepth 100000
set_option linter.unusedVariables false
def ZwI(n:Int):AFrame:={ fn:=117,N:=12,env:=[(0,AV.int .i64 n)],todo:=[.code a117.code],defs:=[],rnd:=none,ret:=false,res:=[ARes.tmp 2] }
def ZIm(n:Int):List AFrame:=[(ZwI n)]
theorem ZuJ(n:Int):Zau tab 117 [AV.int .i64 n]=some (ZwI n):=rfl
def Zfc(n0 n1 n2:Int):List AFrame:=[{ fn:=117,N:=12,env:=[(3,AV.int .i64 n1),(5,AV.int .i64 n0),(6,AV.int .i64 n2)],todo:=.code (ACode.gh [] Zwt)::ZCu,defs:=[],rnd:=none,ret:=false,res:=[ARes.tmp 2] }]
def ZdZ(n0 n1 n2:Int):Zaa:=[]
abbrev Zhp(n0 n1 n2:Int):List AFrame×Zaa:=(Zfc n0 n1 n2,ZdZ n0 n1 n2)
def Zwr(A:Ar)(K:KT)(F:FT)(n:Int):Prop:=rB [A.not (A.eq 15 0)] (K (Zhp (A.rem n 15) (1) (0)))
theorem ZDJ{A:Ar}{K:KT}{F:FT}{M:MT}{n:Int} :Zal A tab Ka 117 K F M (.run 18 (.hd)) (ZIm n) []=Zwr A K F n:=by kernel_rfl
def ZdK(A:Ar)(K:KT)(F:FT)(n0 n1 n2:Int):Prop:=bB (A.lt n2 n0) (rB [A.inR .i64 (A.add n2 1),decide (elB n1=true∧elB 2=true)] (K (Zhp (n0) (gM n1 2) (A.add n2 1)))) (F (AV.int .i64 n1) (none))
theorem ZhC{A:Ar}{K:KT}{F:FT}{M:MT}{n0 n1 n2:Int} :Zal A tab Ka 117 K F M (.run 6 (.tf (.run 15 (.hd)) (.run 7 (.fn)))) (Zfc n0 n1 n2) (ZdZ n0 n1 n2)=ZdK A K F n0 n1 n2:=by kernel_rfl
def ZDU(n:Int):AFrame:={ fn:=77,N:=13,env:=[(0,AV.int .i64 n)],todo:=[.code a77.code],defs:=[],rnd:=none,ret:=false,res:=[ARes.tmp 2] }
def ZJH(n:Int):List AFrame:=[(ZDU n)]
theorem ZxW(n:Int):Zau tab 77 [AV.int .i64 n]=some (ZDU n):=rfl
def Zjg(n n0 n1:Int):List AFrame:=[{ fn:=77,N:=13,env:=[(0,AV.int .i64 n),(3,AV.int .i64 n0),(4,AV.int .i64 n1)],todo:=.code (ACode.gh [] ZCy)::ZGK,defs:=[],rnd:=none,ret:=false,res:=[ARes.tmp 2] }]
def ZgF(n n0 n1:Int):Zaa:=[]
abbrev Zj4(n n0 n1:Int):List AFrame×Zaa:=(Zjg n n0 n1,ZgF n n0 n1)
def ZBY(A:Ar)(K:KT)(F:FT)(n:Int):Prop:=K (Zj4 (n) (1) (0))
theorem ZIj{A:Ar}{K:KT}{F:FT}{M:MT}{n:Int} :Zal A tab Ka 77 K F M (.run 16 (.hd)) (ZJH n) []=ZBY A K F n:=by kernel_rfl
def Zgp(A:Ar)(K:KT)(F:FT)(n n0 n1:Int):Prop:=bB (A.lt n1 n) (rB [A.inR .i64 (A.add n1 1),decide (elB n0=true∧elB 2=true)] (K (Zj4 (n) (gM n0 2) (A.add n1 1)))) (F (AV.int .i64 n0) (none))
theorem Zj6{A:Ar}{K:KT}{F:FT}{M:MT}{n n0 n1:Int} :Zal A tab Ka 77 K F M (.run 8 (.tf (.run 16 (.hd)) (.run 7 (.fn)))) (Zjg n n0 n1) (ZgF n n0 n1)=Zgp A K F n n0 n1:=by kernel_rfl
def ZwJ(n:Int):AFrame:={ fn:=128,N:=13,env:=[(0,AV.int .i64 n)],todo:=[.code a128.code],defs:=[],rnd:=none,ret:=false,res:=[ARes.tmp 2] }
def ZId(n:Int):List AFrame:=[(ZwJ n)]
theorem ZtV(n:Int):Zau tab 128 [AV.int .i64 n]=some (ZwJ n):=rfl
def Ze4(n n0:Int):List AFrame:=[{ fn:=128,N:=13,env:=[(0,AV.int .i64 n),(3,AV.int .i64 n0)],todo:=.code (ACode.gh [] ZwW)::ZEe,defs:=[],rnd:=none,ret:=false,res:=[ARes.tmp 2] }]
def Zdw(n n0:Int):Zaa:=[]
abbrev Zhm(n n0:Int):List AFrame×Zaa:=(Ze4 n n0,Zdw n n0)
def ZxF(A:Ar)(K:KT)(F:FT)(n:Int):Prop:=K (Zhm (n) (1))
theorem ZBN{A:Ar}{K:KT}{F:FT}{M:MT}{n:Int} :Zal A tab Ka 128 K F M (.run 12 (.hd)) (ZId n) []=ZxF A K F n:=by kernel_rfl
def ZcC(A:Ar)(K:KT)(F:FT)(n n0:Int):Prop:=bB (A.lt n0 16) (rB [decide (elB n=true∧elB n0=true)] (bB (A.eq (gM n n0) 1) (F (AV.int .i64 n0) (none)) (rB [A.inR .i64 (A.add n0 1)] (K (Zhm (n) (A.add n0 1)))))) (F (AV.int .i64 0) (none))
theorem ZhH{A:Ar}{K:KT}{F:FT}{M:MT}{n n0:Int} :Zal A tab Ka 128 K F M (.run 7 (.tf (.run 10 (.tf (.run 6 (.fn)) (.run 9 (.hd)))) (.run 6 (.fn)))) (Ze4 n n0) (Zdw n n0)=ZcC A K F n n0:=by kernel_rfl
def ZAM(n:Int):AFrame:={ fn:=94,N:=13,env:=[(0,AV.int .i64 n)],todo:=[.code a94.code],defs:=[],rnd:=none,ret:=false,res:=[ARes.tmp 2] }
def ZJW(n:Int):List AFrame:=[(ZAM n)]
theorem Zx8(n:Int):Zau tab 94 [AV.int .i64 n]=some (ZAM n):=rfl
def Zjk(n n0:Int):List AFrame:=[{ fn:=94,N:=13,env:=[(0,AV.int .i64 n),(3,AV.int .i64 n0)],todo:=.code (ACode.gh [] ZDT)::ZGF,defs:=[],rnd:=none,ret:=false,res:=[ARes.tmp 2] }]
def ZgI(n n0:Int):Zaa:=[]
abbrev ZkM(n n0:Int):List AFrame×Zaa:=(Zjk n n0,ZgI n n0)
def ZDG(A:Ar)(K:KT)(F:FT)(n:Int):Prop:=K (ZkM (n) (1))
theorem ZHy{A:Ar}{K:KT}{F:FT}{M:MT}{n:Int} :Zal A tab Ka 94 K F M (.run 12 (.hd)) (ZJW n) []=ZDG A K F n:=by kernel_rfl
def ZeB(A:Ar)(K:KT)(F:FT)(n n0:Int):Prop:=bB (A.lt n0 16) (rB [decide (elB n=true∧elB n0=true)] (bB (A.eq (gM n n0) 1) (F (AV.int .i64 n0) (none)) (rB [A.inR .i64 (A.add n0 1)] (K (ZkM (n) (A.add n0 1)))))) (F (AV.int .i64 0) (none))
theorem ZjL{A:Ar}{K:KT}{F:FT}{M:MT}{n n0:Int} :Zal A tab Ka 94 K F M (.run 7 (.tf (.run 10 (.tf (.run 6 (.fn)) (.run 9 (.hd)))) (.run 6 (.fn)))) (Zjk n n0) (ZgI n n0)=ZeB A K F n n0:=by kernel_rfl
end Go.Proofs.Ytklbmkllepkjcaa
/- Contracts as a list. No condition. -/
namespace Go.Proofs.Ytklbmkllepkjcaa
def gP(n:Int):Int:=((Zbe n.toNat:Nat):Int)
theorem ZaR{n:Nat}(h:n<16):elB n=true:=decide_eq_true (by omega)
theorem ZoE(a b:Nat):gM a b=((Zar a b:Nat):Int):=rfl
theorem ZxG(n:Nat):gM ((Zbe n:Nat):Int) 2=((Zbe (n+1):Nat):Int):=rfl
theorem ZrU{a b:Nat}(ha:a<16)(hb:b<16)(h1:Zar a b=1):ZfA a=b:=by
 have h:ZsO (fun a b=>decide (Zar a b=1→ZfA a=b))=true:=by kernel_rfl
 exact of_decide_eq_true (ZcH h ha hb) h1
theorem Zr7{a:Nat}(ha:a<16)(h:∀j,j<16→Zar a j≠1):ZfA a=0:=by
 by_cases h0:a=0
 ·subst h0;rfl
 ·obtain⟨h1,h2⟩:=Zvy ha h0
  exact absurd h2 (h _ h1)
section
variable {C:Ctx}(hC:C.P=Try.prog)
include hC
theorem ZKk(n:Nat)(hn:n≤1000):∀(k j:Nat),j+k=n→Ev C (Zfc n ((Zbe j:Nat):Int) j) (ZdZ n ((Zbe j:Nat):Int) j) (ZaL 117 (.int .i64 ((Zbe n:Nat):Int)) none):=by
 intro k
 induction k with
 |zero=>
  intro j hj
  refine tgo hC ZgE ZhC ?_
  rw[show j=n by omega]
  simp[ZdK]
 |succ k ih=>
  intro j hj
  refine tgo hC ZgE ZhC ?_
  have i:=ih (j+1) (by omega)
  have e1:=ZaR (ZbD j)
  have e2:elB 2=true:=rfl
  rw[←ZxG]at i
  simp[ZdK,show(j:Int)<n by omega,e1,e2]at i⊢
  exact⟨by omega,i⟩
theorem L77(n:Nat)(hn:n≤1000):∀(k j:Nat),j+k=n→Ev C (Zjg n ((Zbe j:Nat):Int) j) (ZgF n ((Zbe j:Nat):Int) j) (ZaL 77 (.int .i64 ((Zbe n:Nat):Int)) none):=by
 intro k
 induction k with
 |zero=>
  intro j hj
  refine tgo hC ZgE Zj6 ?_
  rw[show j=n by omega]
  simp[Zgp]
 |succ k ih=>
  intro j hj
  refine tgo hC ZgE Zj6 ?_
  have i:=ih (j+1) (by omega)
  have e1:=ZaR (ZbD j)
  have e2:elB 2=true:=rfl
  rw[←ZxG]at i
  simp[Zgp,show(j:Int)<n by omega,e1,e2]at i⊢
  exact⟨by omega,i⟩
theorem ZJx(a:Nat)(ha:a<16):∀(k b:Nat),b+k=16→(∀j,j<b→Zar a j≠1)→Ev C (Ze4 a b) (Zdw a b) (ZaL 128 (.int .i64 ((ZfA a:Nat):Int)) none):=by
 intro k
 induction k with
 |zero=>
  intro b hb hj
  refine tgo hC ZgE ZhH ?_
  have e:b=16:=by omega
  rw[Zr7 ha (fun j h=>hj j (by omega))]
  subst e
  simp[ZcC]
 |succ k ih=>
  intro b hb hj
  refine tgo hC ZgE ZhH ?_
  have e1:=ZaR ha
  have e2:=ZaR (n:=b) (by omega)
  by_cases h1:Zar a b=1
  ·rw[ZrU ha (by omega) h1]
   simp[ZcC,e1,e2,ZoE,h1,show(b:Int)<16 by omega]
  ·have i:=ih (b+1) (by omega) (fun j h=>by
    by_cases hjb:j=b
    ·subst hjb;exact h1
    ·exact hj j (by omega))
   have h1':¬((Zar a b:Nat):Int)=1:=by omega
   simp[ZcC,e1,e2,ZoE,h1',show(b:Int)<16 by omega]at i⊢
   exact⟨by omega,i⟩
theorem L94(a:Nat)(ha:a<16):∀(k b:Nat),b+k=16→(∀j,j<b→Zar a j≠1)→Ev C (Zjk a b) (ZgI a b) (ZaL 94 (.int .i64 ((ZfA a:Nat):Int)) none):=by
 intro k
 induction k with
 |zero=>
  intro b hb hj
  refine tgo hC ZgE ZjL ?_
  have e:b=16:=by omega
  rw[Zr7 ha (fun j h=>hj j (by omega))]
  subst e
  simp[ZeB]
 |succ k ih=>
  intro b hb hj
  refine tgo hC ZgE ZjL ?_
  have e1:=ZaR ha
  have e2:=ZaR (n:=b) (by omega)
  by_cases h1:Zar a b=1
  ·rw[ZrU ha (by omega) h1]
   simp[ZeB,e1,e2,ZoE,h1,show(b:Int)<16 by omega]
  ·have i:=ih (b+1) (by omega) (fun j h=>by
    by_cases hjb:j=b
    ·subst hjb;exact h1
    ·exact hj j (by omega))
   have h1':¬((Zar a b:Nat):Int)=1:=by omega
   simp[ZeB,e1,e2,ZoE,h1',show(b:Int)<16 by omega]at i⊢
   exact⟨by omega,i⟩
end
theorem Zsm(n:Int)(h:0≤n):Zai Try.prog 117 [.int .i64 n] (.int .i64 (gP n)) none:=by
 obtain⟨m,rfl⟩:=Int.eq_ofNat_of_zero_le h
 refine start (ZuJ m) fun C hC=>tgo hC ZgE ZDJ ?_
 have i:=ZKk hC (m%15) (by omega) (m%15) 0 (by omega)
 have e:((m:Nat):Int).tmod 15=((m%15:Nat):Int):=rfl
 have e2:gP m=((Zbe (m%15):Nat):Int):=by unfold gP;rw[Int.toNat_natCast,ZpK]
 rw[e2]
 simp only[Zwr,ZyK,e]
 simp[Zbe]at i⊢
 exact i
theorem ZuB(n:Int)(h:0≤n∧n≤1000):Zai Try.prog 77 [.int .i64 n] (.int .i64 (gP n)) none:=by
 obtain⟨m,rfl⟩:=Int.eq_ofNat_of_zero_le h.1
 refine start (ZxW m) fun C hC=>tgo hC ZgE ZIj ?_
 have i:=L77 hC m (by omega) m 0 (by omega)
 simp[ZBY,Zbe,gP]at i⊢
 exact i
theorem ZrP(a:Int)(h:elB a=true):Zai Try.prog 128 [.int .i64 a] (.int .i64 (gI a)) none:=by
 obtain⟨m,rfl,hm⟩:=Zdx h
 refine start (ZtV m) fun C hC=>tgo hC ZgE ZBN ?_
 have i:=ZJx hC m hm 15 1 (by omega) (fun j hj=>by rw[show j=0 by omega,ZbK hm];decide)
 simp[ZxF,gI]at i⊢
 exact i
theorem ZvB(a:Int)(h:elB a=true):Zai Try.prog 94 [.int .i64 a] (.int .i64 (gI a)) none:=by
 obtain⟨m,rfl,hm⟩:=Zdx h
 refine start (Zx8 m) fun C hC=>tgo hC ZgE ZHy ?_
 have i:=L94 hC m hm 15 1 (by omega) (fun j hj=>by rw[show j=0 by omega,ZbK hm];decide)
 simp[ZDG,gI]at i⊢
 exact i
def k117:Ctr:=⟨117,0,fun _ a=>match a with |[.int .i64 n]=>some (decide (0≤n), .int .i64 (gP n),none) |_=>none⟩
theorem Zzh:k117.OK Try.prog:=fun pa args r fr h=>by
 simp only[k117]at h
 split at h
 ·simp only[Option.some.injEq,Prod.mk.injEq,decide_eq_true_eq]at h
  obtain⟨h0,rfl,rfl⟩:=h
  exact Zsm _ h0
 ·cases h
def k77:Ctr:=⟨77,0,fun _ a=>match a with |[.int .i64 n]=>some (decide (0≤n∧n≤1000), .int .i64 (gP n),none) |_=>none⟩
theorem ZCV:k77.OK Try.prog:=fun pa args r fr h=>by
 simp only[k77]at h
 split at h
 ·simp only[Option.some.injEq,Prod.mk.injEq,decide_eq_true_eq]at h
  obtain⟨h0,rfl,rfl⟩:=h
  exact ZuB _ h0
 ·cases h
def k128:Ctr:=⟨128,0,fun _ a=>match a with |[.int .i64 a]=>some (decide (elB a=true), .int .i64 (gI a),none) |_=>none⟩
theorem Zz3:k128.OK Try.prog:=fun pa args r fr h=>by
 simp only[k128]at h
 split at h
 ·simp only[Option.some.injEq,Prod.mk.injEq,decide_eq_true_eq]at h
  obtain⟨h0,rfl,rfl⟩:=h
  exact ZrP _ h0
 ·cases h
def k94:Ctr:=⟨94,0,fun _ a=>match a with |[.int .i64 a]=>some (decide (elB a=true), .int .i64 (gI a),none) |_=>none⟩
theorem ZBo:k94.OK Try.prog:=fun pa args r fr h=>by
 simp only[k94]at h
 split at h
 ·simp only[Option.some.injEq,Prod.mk.injEq,decide_eq_true_eq]at h
  obtain⟨h0,rfl,rfl⟩:=h
  exact ZvB _ h0
 ·cases h
def Kb:List Ctr:=[k117,k77,k128,k94]++Ka
theorem ZeU:Zaz Try.prog Kb:=⟨Zzh,⟨ZCV,⟨Zz3,⟨ZBo,ZgE⟩⟩⟩⟩
end Go.Proofs.Ytklbmkllepkjcaa
