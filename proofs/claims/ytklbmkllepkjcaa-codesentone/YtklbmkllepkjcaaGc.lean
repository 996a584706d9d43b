/- Calls at given values. Printed by facts.py. -/
import Derived.Test.YtklbmkllepkjcaaSr
import Derived.KernelRfl
namespace Go.Proofs.Ytklbmkllepkjcaa
set_option maxRecDepth 1000000
def aw0:Fact:=⟨58,[],(.agg (.gen [(.int .i64 2),(.int .i64 7),(.int .i64 5)])),none⟩
theorem ZCB:Zah Try.prog aw0.f aw0.args aw0.r aw0.fr:=Zab (n:=100000) (l:=[]) follows Zac trivial (by kernel_rfl)
def aw1:Fact:=⟨59,[],(.row 0 0),(some ⟨3,1,(.ints .i64 [(-1),(-1),1,1,(-1),(-1),1,1])⟩)⟩
theorem ZAZ:Zah Try.prog aw1.f aw1.args aw1.r aw1.fr:=Zab (n:=100000) (l:=[]) follows Zac trivial (by kernel_rfl)
def aw2:Fact:=⟨91,[(.int .i64 2),(.int .i64 1),(.int .i64 3)],(.bool true),none⟩
theorem ZBU:Zah Try.prog aw2.f aw2.args aw2.r aw2.fr:=Zab (n:=100000) (l:=[]) follows Zac trivial (by kernel_rfl)
def aw3:Fact:=⟨91,[(.int .i64 7),(.int .i64 1),(.int .i64 7)],(.bool true),none⟩
theorem ZzM:Zah Try.prog aw3.f aw3.args aw3.r aw3.fr:=Zab (n:=100000) (l:=[]) follows Zac trivial (by kernel_rfl)
def aw4:Fact:=⟨111,[(.int .i64 7),(.eptr (.int .i64 1) 0),(.eptr (.int .i64 7) 0)],(.bool false),none⟩
theorem ZAu:Zah Try.prog aw4.f aw4.args aw4.r aw4.fr:=Zab (n:=100000) (l:=[aw3]) follows Zac ⟨ZzM,trivial⟩ (by kernel_rfl)
def aw5:Fact:=⟨91,[(.int .i64 5),(.int .i64 1),(.int .i64 7)],(.bool true),none⟩
theorem ZzZ:Zah Try.prog aw5.f aw5.args aw5.r aw5.fr:=Zab (n:=100000) (l:=[]) follows Zac trivial (by kernel_rfl)
def aw6:Fact:=⟨111,[(.int .i64 5),(.eptr (.int .i64 1) 0),(.eptr (.int .i64 7) 0)],(.bool false),none⟩
theorem ZDc:Zah Try.prog aw6.f aw6.args aw6.r aw6.fr:=Zab (n:=100000) (l:=[aw5]) follows Zac ⟨ZzZ,trivial⟩ (by kernel_rfl)
def aw7:Fact:=⟨123,[(.list (.ints .i64 [7,5])),(.fn 111 [(.eptr (.int .i64 1) 0),(.eptr (.int .i64 7) 0)])],(.int .i64 (-1)),none⟩
theorem ZAy:Zah Try.prog aw7.f aw7.args aw7.r aw7.fr:=Zab (n:=100000) (l:=[aw4,aw6]) follows Zac ⟨ZAu,⟨ZDc,trivial⟩⟩ (by kernel_rfl)
def aw8:Fact:=⟨110,[(.list (.ints .i64 [7,5])),(.fn 111 [(.eptr (.int .i64 1) 0),(.eptr (.int .i64 7) 0)])],(.bool false),none⟩
theorem ZzK:Zah Try.prog aw8.f aw8.args aw8.r aw8.fr:=Zab (n:=100000) (l:=[aw7]) follows Zac ⟨ZAy,trivial⟩ (by kernel_rfl)
def aw9:Fact:=⟨85,[(.bool true),(.int .i64 2)],(.int .i64 0),none⟩
theorem Zir:Zah Try.prog aw9.f aw9.args aw9.r aw9.fr:=Zab (n:=100000) (l:=[]) follows Zac trivial (by kernel_rfl)
def aw10:Fact:=⟨70,[(.list (.ints .i64 [7,5])),(.int .i64 1),(.int .i64 7)],(.int .i64 0),none⟩
theorem Zyv:Zah Try.prog aw10.f aw10.args aw10.r aw10.fr:=Zab (n:=100000) (l:=[aw8,aw9]) follows Zac ⟨ZzK,⟨Zir,trivial⟩⟩ (by kernel_rfl)
def aw11:Fact:=⟨63,[(.agg (.gen [(.int .i64 2),(.int .i64 7),(.int .i64 5)]))],(.int .i64 0),none⟩
theorem Zrb:Zah Try.prog aw11.f aw11.args aw11.r aw11.fr:=Zab (n:=100000) (l:=[aw2,aw10]) follows Zac ⟨ZBU,⟨Zyv,trivial⟩⟩ (by kernel_rfl)
def aw12:Fact:=⟨85,[(.bool true),(.int .i64 10)],(.int .i64 0),none⟩
theorem Zm5:Zah Try.prog aw12.f aw12.args aw12.r aw12.fr:=Zab (n:=100000) (l:=[]) follows Zac trivial (by kernel_rfl)
def aw13:Fact:=⟨85,[(.bool true),(.int .i64 8)],(.int .i64 0),none⟩
theorem Zsn:Zah Try.prog aw13.f aw13.args aw13.r aw13.fr:=Zab (n:=100000) (l:=[]) follows Zac trivial (by kernel_rfl)
def aw14:Fact:=⟨91,[(.int .i64 (-1)),(.int .i64 (-7)),(.int .i64 7)],(.bool true),none⟩
theorem ZwT:Zah Try.prog aw14.f aw14.args aw14.r aw14.fr:=Zab (n:=100000) (l:=[]) follows Zac trivial (by kernel_rfl)
def aw15:Fact:=⟨111,[(.int .i64 (-1)),(.eptr (.int .i64 (-7)) 0),(.eptr (.int .i64 7) 0)],(.bool false),none⟩
theorem Zw8:Zah Try.prog aw15.f aw15.args aw15.r aw15.fr:=Zab (n:=100000) (l:=[aw14]) follows Zac ⟨ZwT,trivial⟩ (by kernel_rfl)
def aw16:Fact:=⟨91,[(.int .i64 1),(.int .i64 (-7)),(.int .i64 7)],(.bool true),none⟩
theorem ZxX:Zah Try.prog aw16.f aw16.args aw16.r aw16.fr:=Zab (n:=100000) (l:=[]) follows Zac trivial (by kernel_rfl)
def aw17:Fact:=⟨111,[(.int .i64 1),(.eptr (.int .i64 (-7)) 0),(.eptr (.int .i64 7) 0)],(.bool false),none⟩
theorem Zyp:Zah Try.prog aw17.f aw17.args aw17.r aw17.fr:=Zab (n:=100000) (l:=[aw16]) follows Zac ⟨ZxX,trivial⟩ (by kernel_rfl)
def aw18:Fact:=⟨123,[(.list (.ints .i64 [(-1),(-1),1,1,(-1),(-1),1,1])),(.fn 111 [(.eptr (.int .i64 (-7)) 0),(.eptr (.int .i64 7) 0)])],(.int .i64 (-1)),none⟩
theorem ZxG:Zah Try.prog aw18.f aw18.args aw18.r aw18.fr:=Zab (n:=100000) (l:=[aw15,aw17]) follows Zac ⟨Zw8,⟨Zyp,trivial⟩⟩ (by kernel_rfl)
def aw19:Fact:=⟨110,[(.list (.ints .i64 [(-1),(-1),1,1,(-1),(-1),1,1])),(.fn 111 [(.eptr (.int .i64 (-7)) 0),(.eptr (.int .i64 7) 0)])],(.bool false),none⟩
theorem ZxL:Zah Try.prog aw19.f aw19.args aw19.r aw19.fr:=Zab (n:=100000) (l:=[aw18]) follows Zac ⟨ZxG,trivial⟩ (by kernel_rfl)
def aw20:Fact:=⟨70,[(.list (.ints .i64 [(-1),(-1),1,1,(-1),(-1),1,1])),(.int .i64 (-7)),(.int .i64 7)],(.int .i64 0),none⟩
theorem ZxW:Zah Try.prog aw20.f aw20.args aw20.r aw20.fr:=Zab (n:=100000) (l:=[aw19,aw9]) follows Zac ⟨ZxL,⟨Zir,trivial⟩⟩ (by kernel_rfl)
def aw21:Fact:=⟨72,[(.list (.ints .i64 [0,0,0]))],(.int .i64 0),none⟩
theorem Zsb:Zah Try.prog aw21.f aw21.args aw21.r aw21.fr:=Zab (n:=100000) (l:=[]) follows Zac trivial (by kernel_rfl)
def aw22:Fact:=⟨64,[(.agg (.gen [(.int .i64 2),(.int .i64 7),(.int .i64 5)])),(.list (.ints .i64 [(-1),(-1),1,1,(-1),(-1),1,1]))],(.int .i64 0),none⟩
theorem Zys:Zah Try.prog aw22.f aw22.args aw22.r aw22.fr:=Zab (n:=100000) (l:=[aw12,aw13,aw20,aw21]) follows Zac ⟨Zm5,⟨Zsn,⟨ZxW,⟨Zsb,trivial⟩⟩⟩⟩ (by kernel_rfl)
def aw23:Fact:=⟨84,[(.agg (.gen [(.int .i64 2),(.int .i64 7),(.int .i64 5),(.list (.ints .i64 [(-1),(-1),1,1,(-1),(-1),1,1]))]))],(.int .i64 4),none⟩
theorem ZrU:Zah Try.prog aw23.f aw23.args aw23.r aw23.fr:=Zab (n:=100000) (l:=[]) follows Zac trivial (by kernel_rfl)
def aw24:Fact:=⟨86,[(.agg (.gen [(.int .i64 2),(.int .i64 7),(.int .i64 5),(.list (.ints .i64 [(-1),(-1),1,1,(-1),(-1),1,1]))]))],(.int .i64 4),none⟩
theorem ZyD:Zah Try.prog aw24.f aw24.args aw24.r aw24.fr:=Zab (n:=100000) (l:=[]) follows Zac trivial (by kernel_rfl)
def aw25:Fact:=⟨127,[(.int .u64 1),(.int .u64 4)],(.tup [(.int .u64 0),(.int .u64 4)]),none⟩
theorem ZxH:Zah Try.prog aw25.f aw25.args aw25.r aw25.fr:=Zab (n:=100000) (l:=[]) follows Zac trivial (by kernel_rfl)
def aw26:Fact:=⟨114,[(.int .u64 1),(.int .u64 4)],(.tup [(.int .u64 0),(.int .u64 4)]),none⟩
theorem Zqm:Zah Try.prog aw26.f aw26.args aw26.r aw26.fr:=Zab (n:=100000) (l:=[aw25]) follows Zac ⟨ZxH,trivial⟩ (by kernel_rfl)
def aw27:Fact:=⟨122,[(.list (.flts .f32 [3351465984])),(.int .i64 4)],(.row 0 0),(some ⟨118,1,(.flts .f32 [3351465984,3351465984,3351465984,3351465984])⟩)⟩
theorem ZwF:Zah Try.prog aw27.f aw27.args aw27.r aw27.fr:=Zab (n:=100000) (l:=[aw26]) follows Zac ⟨Zqm,trivial⟩ (by kernel_rfl)
def aw28:Fact:=⟨125,[(.int .u64 0)],(.int .i64 0),none⟩
theorem ZwD:Zah Try.prog aw28.f aw28.args aw28.r aw28.fr:=Zab (n:=100000) (l:=[]) follows Zac trivial (by kernel_rfl)
def aw29:Fact:=⟨113,[(.int .u64 0)],(.int .i64 0),none⟩
theorem Zsa:Zah Try.prog aw29.f aw29.args aw29.r aw29.fr:=Zab (n:=100000) (l:=[aw28]) follows Zac ⟨ZwD,trivial⟩ (by kernel_rfl)
def aw30:Fact:=⟨82,[(.agg (.gen [(.int .i64 2),(.int .i64 7),(.int .i64 5)])),(.int .i64 0),(.int .i64 0)],(.tup [(.int .i64 0),(.agg (.ints .i64 [0,0]))]),none⟩
theorem Zyt:Zah Try.prog aw30.f aw30.args aw30.r aw30.fr:=Zab (n:=100000) (l:=[aw29]) follows Zac ⟨Zsa,trivial⟩ (by kernel_rfl)
def aw31:Fact:=⟨89,[(.int .i64 0),(.int .i64 1)],(.int .i64 1),none⟩
theorem ZwW:Zah Try.prog aw31.f aw31.args aw31.r aw31.fr:=Zab (n:=100000) (l:=[]) follows Zac trivial (by kernel_rfl)
def aw32:Fact:=⟨108,[(.agg (.gen [(.int .i64 2),(.int .i64 7),(.int .i64 5),(.list (.ints .i64 [(-1),(-1),1,1,(-1),(-1),1,1]))]))],(.int .i64 2),none⟩
theorem ZyQ:Zah Try.prog aw32.f aw32.args aw32.r aw32.fr:=Zab (n:=100000) (l:=[aw23]) follows Zac ⟨ZrU,trivial⟩ (by kernel_rfl)
def aw33:Fact:=⟨125,[(.int .u64 1)],(.int .i64 1),none⟩
theorem Zx3:Zah Try.prog aw33.f aw33.args aw33.r aw33.fr:=Zab (n:=100000) (l:=[]) follows Zac trivial (by kernel_rfl)
def aw34:Fact:=⟨113,[(.int .u64 1)],(.int .i64 1),none⟩
theorem Zql:Zah Try.prog aw34.f aw34.args aw34.r aw34.fr:=Zab (n:=100000) (l:=[aw33]) follows Zac ⟨Zx3,trivial⟩ (by kernel_rfl)
def aw35:Fact:=⟨82,[(.agg (.gen [(.int .i64 2),(.int .i64 7),(.int .i64 5)])),(.int .i64 1),(.int .i64 0)],(.tup [(.int .i64 0),(.agg (.ints .i64 [1,1]))]),none⟩
theorem Zqk:Zah Try.prog aw35.f aw35.args aw35.r aw35.fr:=Zab (n:=100000) (l:=[aw34]) follows Zac ⟨Zql,trivial⟩ (by kernel_rfl)
def aw36:Fact:=⟨89,[(.int .i64 1),(.int .i64 1)],(.int .i64 (-1)),none⟩
theorem Zyc:Zah Try.prog aw36.f aw36.args aw36.r aw36.fr:=Zab (n:=100000) (l:=[]) follows Zac trivial (by kernel_rfl)
def aw37:Fact:=⟨125,[(.int .u64 2)],(.int .i64 1),none⟩
theorem ZxR:Zah Try.prog aw37.f aw37.args aw37.r aw37.fr:=Zab (n:=100000) (l:=[]) follows Zac trivial (by kernel_rfl)
def aw38:Fact:=⟨113,[(.int .u64 2)],(.int .i64 1),none⟩
theorem Zyk:Zah Try.prog aw38.f aw38.args aw38.r aw38.fr:=Zab (n:=100000) (l:=[aw37]) follows Zac ⟨ZxR,trivial⟩ (by kernel_rfl)
def aw39:Fact:=⟨82,[(.agg (.gen [(.int .i64 2),(.int .i64 7),(.int .i64 5)])),(.int .i64 2),(.int .i64 0)],(.tup [(.int .i64 1),(.agg (.ints .i64 [1,0]))]),none⟩
theorem Zqg:Zah Try.prog aw39.f aw39.args aw39.r aw39.fr:=Zab (n:=100000) (l:=[aw38,aw29]) follows Zac ⟨Zyk,⟨Zsa,trivial⟩⟩ (by kernel_rfl)
def aw40:Fact:=⟨125,[(.int .u64 3)],(.int .i64 2),none⟩
theorem ZxP:Zah Try.prog aw40.f aw40.args aw40.r aw40.fr:=Zab (n:=100000) (l:=[]) follows Zac trivial (by kernel_rfl)
def aw41:Fact:=⟨113,[(.int .u64 3)],(.int .i64 2),none⟩
theorem Zwv:Zah Try.prog aw41.f aw41.args aw41.r aw41.fr:=Zab (n:=100000) (l:=[aw40]) follows Zac ⟨ZxP,trivial⟩ (by kernel_rfl)
def aw42:Fact:=⟨82,[(.agg (.gen [(.int .i64 2),(.int .i64 7),(.int .i64 5)])),(.int .i64 3),(.int .i64 0)],(.tup [(.int .i64 1),(.agg (.ints .i64 [0,1]))]),none⟩
theorem ZrD:Zah Try.prog aw42.f aw42.args aw42.r aw42.fr:=Zab (n:=100000) (l:=[aw41,aw34]) follows Zac ⟨Zwv,⟨Zql,trivial⟩⟩ (by kernel_rfl)
def aw43:Fact:=⟨89,[(.int .i64 0),(.int .i64 (-1))],(.int .i64 (-1)),none⟩
theorem ZxS:Zah Try.prog aw43.f aw43.args aw43.r aw43.fr:=Zab (n:=100000) (l:=[]) follows Zac trivial (by kernel_rfl)
def aw44:Fact:=⟨89,[(.int .i64 1),(.int .i64 (-1))],(.int .i64 1),none⟩
theorem Zxe:Zah Try.prog aw44.f aw44.args aw44.r aw44.fr:=Zab (n:=100000) (l:=[]) follows Zac trivial (by kernel_rfl)
def aw45:Fact:=⟨125,[(.int .u64 4)],(.int .i64 1),none⟩
theorem ZwJ:Zah Try.prog aw45.f aw45.args aw45.r aw45.fr:=Zab (n:=100000) (l:=[]) follows Zac trivial (by kernel_rfl)
def aw46:Fact:=⟨113,[(.int .u64 4)],(.int .i64 1),none⟩
theorem ZrV:Zah Try.prog aw46.f aw46.args aw46.r aw46.fr:=Zab (n:=100000) (l:=[aw45]) follows Zac ⟨ZwJ,trivial⟩ (by kernel_rfl)
def aw47:Fact:=⟨82,[(.agg (.gen [(.int .i64 2),(.int .i64 7),(.int .i64 5)])),(.int .i64 0),(.int .i64 1)],(.tup [(.int .i64 2),(.agg (.ints .i64 [1,1]))]),none⟩
theorem Zqv:Zah Try.prog aw47.f aw47.args aw47.r aw47.fr:=Zab (n:=100000) (l:=[aw46]) follows Zac ⟨ZrV,trivial⟩ (by kernel_rfl)
def aw48:Fact:=⟨125,[(.int .u64 5)],(.int .i64 2),none⟩
theorem Zx0:Zah Try.prog aw48.f aw48.args aw48.r aw48.fr:=Zab (n:=100000) (l:=[]) follows Zac trivial (by kernel_rfl)
def aw49:Fact:=⟨113,[(.int .u64 5)],(.int .i64 2),none⟩
theorem ZpU:Zah Try.prog aw49.f aw49.args aw49.r aw49.fr:=Zab (n:=100000) (l:=[aw48]) follows Zac ⟨Zx0,trivial⟩ (by kernel_rfl)
def aw50:Fact:=⟨82,[(.agg (.gen [(.int .i64 2),(.int .i64 7),(.int .i64 5)])),(.int .i64 1),(.int .i64 1)],(.tup [(.int .i64 2),(.agg (.ints .i64 [0,0]))]),none⟩
theorem Zrf:Zah Try.prog aw50.f aw50.args aw50.r aw50.fr:=Zab (n:=100000) (l:=[aw49]) follows Zac ⟨ZpU,trivial⟩ (by kernel_rfl)
def aw51:Fact:=⟨125,[(.int .u64 6)],(.int .i64 2),none⟩
theorem Zxp:Zah Try.prog aw51.f aw51.args aw51.r aw51.fr:=Zab (n:=100000) (l:=[]) follows Zac trivial (by kernel_rfl)
def aw52:Fact:=⟨113,[(.int .u64 6)],(.int .i64 2),none⟩
theorem Zxa:Zah Try.prog aw52.f aw52.args aw52.r aw52.fr:=Zab (n:=100000) (l:=[aw51]) follows Zac ⟨Zxp,trivial⟩ (by kernel_rfl)
def aw53:Fact:=⟨82,[(.agg (.gen [(.int .i64 2),(.int .i64 7),(.int .i64 5)])),(.int .i64 2),(.int .i64 1)],(.tup [(.int .i64 3),(.agg (.ints .i64 [0,1]))]),none⟩
theorem ZpS:Zah Try.prog aw53.f aw53.args aw53.r aw53.fr:=Zab (n:=100000) (l:=[aw52,aw46]) follows Zac ⟨Zxa,⟨ZrV,trivial⟩⟩ (by kernel_rfl)
def aw54:Fact:=⟨125,[(.int .u64 7)],(.int .i64 3),none⟩
theorem ZxB:Zah Try.prog aw54.f aw54.args aw54.r aw54.fr:=Zab (n:=100000) (l:=[]) follows Zac trivial (by kernel_rfl)
def aw55:Fact:=⟨113,[(.int .u64 7)],(.int .i64 3),none⟩
theorem ZyH:Zah Try.prog aw55.f aw55.args aw55.r aw55.fr:=Zab (n:=100000) (l:=[aw54]) follows Zac ⟨ZxB,trivial⟩ (by kernel_rfl)
def aw56:Fact:=⟨82,[(.agg (.gen [(.int .i64 2),(.int .i64 7),(.int .i64 5)])),(.int .i64 3),(.int .i64 1)],(.tup [(.int .i64 3),(.agg (.ints .i64 [1,0]))]),none⟩
theorem ZpQ:Zah Try.prog aw56.f aw56.args aw56.r aw56.fr:=Zab (n:=100000) (l:=[aw55,aw49]) follows Zac ⟨ZyH,⟨ZpU,trivial⟩⟩ (by kernel_rfl)
def aw57:Fact:=⟨65,[(.agg (.gen [(.int .i64 2),(.int .i64 7),(.int .i64 5),(.list (.ints .i64 [(-1),(-1),1,1,(-1),(-1),1,1]))]))],(.tup [(.row 0 0),(.int .i64 6)]),(some ⟨3,1,(.ints .i64 [1,0])⟩)⟩
theorem ZyA:Zah Try.prog aw57.f aw57.args aw57.r aw57.fr:=Zab (n:=100000) (l:=[aw23,aw24,aw27,aw30,aw31,aw32,aw35,aw36,aw39,aw42,aw43,aw44,aw47,aw50,aw53,aw56]) follows Zac ⟨ZrU,⟨ZyD,⟨ZwF,⟨Zyt,⟨ZwW,⟨ZyQ,⟨Zqk,⟨Zyc,⟨Zqg,⟨ZrD,⟨ZxS,⟨Zxe,⟨Zqv,⟨Zrf,⟨ZpS,⟨ZpQ,trivial⟩⟩⟩⟩⟩⟩⟩⟩⟩⟩⟩⟩⟩⟩⟩⟩ (by kernel_rfl)
def aw58:Fact:=⟨13,[(.agg (.gen [(.int .i64 2),(.int .i64 7),(.int .i64 5)])),(.list (.ints .i64 [(-1),(-1),1,1,(-1),(-1),1,1]))],(.tup [(.row 0 0),(.int .i64 6),(.int .i64 0)]),(some ⟨3,1,(.ints .i64 [1,0])⟩)⟩
theorem Zxb:Zah Try.prog aw58.f aw58.args aw58.r aw58.fr:=Zab (n:=100000) (l:=[aw11,aw22,aw57]) follows Zac ⟨Zrb,⟨Zys,⟨ZyA,trivial⟩⟩⟩ (by kernel_rfl)
def aw59:Fact:=⟨60,[(.int .i64 1)],(.row 0 0),(some ⟨3,1,(.ints .i64 [0,0,0,0,0,0,0,0,0,0,0,0,1])⟩)⟩
theorem ZxD:Zah Try.prog aw59.f aw59.args aw59.r aw59.fr:=Zab (n:=100000) (l:=[]) follows Zac trivial (by kernel_rfl)
def aw60:Fact:=⟨91,[(.int .i64 1),(.int .i64 1),(.int .i64 3)],(.bool true),none⟩
theorem Zxw:Zah Try.prog aw60.f aw60.args aw60.r aw60.fr:=Zab (n:=100000) (l:=[]) follows Zac trivial (by kernel_rfl)
def aw61:Fact:=⟨73,[(.int .i64 1)],(.int .i64 0),none⟩
theorem Zyj:Zah Try.prog aw61.f aw61.args aw61.r aw61.fr:=Zab (n:=100000) (l:=[aw60,aw9]) follows Zac ⟨Zxw,⟨Zir,trivial⟩⟩ (by kernel_rfl)
def aw62:Fact:=⟨91,[(.int .i64 0),(.int .i64 0),(.int .i64 15)],(.bool true),none⟩
theorem Zxi:Zah Try.prog aw62.f aw62.args aw62.r aw62.fr:=Zab (n:=100000) (l:=[]) follows Zac trivial (by kernel_rfl)
def aw63:Fact:=⟨111,[(.int .i64 0),(.eptr (.int .i64 0) 0),(.eptr (.int .i64 15) 0)],(.bool false),none⟩
theorem ZwP:Zah Try.prog aw63.f aw63.args aw63.r aw63.fr:=Zab (n:=100000) (l:=[aw62]) follows Zac ⟨Zxi,trivial⟩ (by kernel_rfl)
def aw64:Fact:=⟨91,[(.int .i64 1),(.int .i64 0),(.int .i64 15)],(.bool true),none⟩
theorem ZxI:Zah Try.prog aw64.f aw64.args aw64.r aw64.fr:=Zab (n:=100000) (l:=[]) follows Zac trivial (by kernel_rfl)
def aw65:Fact:=⟨111,[(.int .i64 1),(.eptr (.int .i64 0) 0),(.eptr (.int .i64 15) 0)],(.bool false),none⟩
theorem ZwR:Zah Try.prog aw65.f aw65.args aw65.r aw65.fr:=Zab (n:=100000) (l:=[aw64]) follows Zac ⟨ZxI,trivial⟩ (by kernel_rfl)
def aw66:Fact:=⟨123,[(.list (.ints .i64 [0,0,0,0,0,0,0,0,0,0,0,0,1])),(.fn 111 [(.eptr (.int .i64 0) 0),(.eptr (.int .i64 15) 0)])],(.int .i64 (-1)),none⟩
theorem ZxZ:Zah Try.prog aw66.f aw66.args aw66.r aw66.fr:=Zab (n:=100000) (l:=[aw63,aw65]) follows Zac ⟨ZwP,⟨ZwR,trivial⟩⟩ (by kernel_rfl)
def aw67:Fact:=⟨110,[(.list (.ints .i64 [0,0,0,0,0,0,0,0,0,0,0,0,1])),(.fn 111 [(.eptr (.int .i64 0) 0),(.eptr (.int .i64 15) 0)])],(.bool false),none⟩
theorem Zxt:Zah Try.prog aw67.f aw67.args aw67.r aw67.fr:=Zab (n:=100000) (l:=[aw66]) follows Zac ⟨ZxZ,trivial⟩ (by kernel_rfl)
def aw68:Fact:=⟨70,[(.list (.ints .i64 [0,0,0,0,0,0,0,0,0,0,0,0,1])),(.int .i64 0),(.int .i64 15)],(.int .i64 0),none⟩
theorem ZyZ:Zah Try.prog aw68.f aw68.args aw68.r aw68.fr:=Zab (n:=100000) (l:=[aw67,aw9]) follows Zac ⟨Zxt,⟨Zir,trivial⟩⟩ (by kernel_rfl)
def aw69:Fact:=⟨72,[(.list (.ints .i64 [0,0]))],(.int .i64 0),none⟩
theorem ZkO:Zah Try.prog aw69.f aw69.args aw69.r aw69.fr:=Zab (n:=100000) (l:=[]) follows Zac trivial (by kernel_rfl)
def aw70:Fact:=⟨74,[(.list (.ints .i64 [0,0,0,0,0,0,0,0,0,0,0,0,1])),(.int .i64 13)],(.int .i64 0),none⟩
theorem ZwY:Zah Try.prog aw70.f aw70.args aw70.r aw70.fr:=Zab (n:=100000) (l:=[aw12,aw68,aw69]) follows Zac ⟨Zm5,⟨ZyZ,⟨ZkO,trivial⟩⟩⟩ (by kernel_rfl)
def aw71:Fact:=⟨71,[(.int .i64 1),(.int .i64 2)],(.int .i64 2),none⟩
theorem ZaN:Zah Try.prog aw71.f aw71.args aw71.r aw71.fr:=Zab (n:=100000) (l:=[]) follows Zac trivial (by kernel_rfl)
def aw72:Fact:=⟨71,[(.int .i64 2),(.int .i64 2)],(.int .i64 4),none⟩
theorem ZaP:Zah Try.prog aw72.f aw72.args aw72.r aw72.fr:=Zab (n:=100000) (l:=[]) follows Zac trivial (by kernel_rfl)
def aw73:Fact:=⟨71,[(.int .i64 4),(.int .i64 2)],(.int .i64 8),none⟩
theorem Za0:Zah Try.prog aw73.f aw73.args aw73.r aw73.fr:=Zab (n:=100000) (l:=[]) follows Zac trivial (by kernel_rfl)
def aw74:Fact:=⟨71,[(.int .i64 8),(.int .i64 2)],(.int .i64 3),none⟩
theorem Zbg:Zah Try.prog aw74.f aw74.args aw74.r aw74.fr:=Zab (n:=100000) (l:=[]) follows Zac trivial (by kernel_rfl)
def aw75:Fact:=⟨71,[(.int .i64 3),(.int .i64 2)],(.int .i64 6),none⟩
theorem Zbf:Zah Try.prog aw75.f aw75.args aw75.r aw75.fr:=Zab (n:=100000) (l:=[]) follows Zac trivial (by kernel_rfl)
def aw76:Fact:=⟨71,[(.int .i64 6),(.int .i64 2)],(.int .i64 12),none⟩
theorem ZbE:Zah Try.prog aw76.f aw76.args aw76.r aw76.fr:=Zab (n:=100000) (l:=[]) follows Zac trivial (by kernel_rfl)
def aw77:Fact:=⟨71,[(.int .i64 12),(.int .i64 2)],(.int .i64 11),none⟩
theorem Zb5:Zah Try.prog aw77.f aw77.args aw77.r aw77.fr:=Zab (n:=100000) (l:=[]) follows Zac trivial (by kernel_rfl)
def aw78:Fact:=⟨71,[(.int .i64 11),(.int .i64 2)],(.int .i64 5),none⟩
theorem ZcE:Zah Try.prog aw78.f aw78.args aw78.r aw78.fr:=Zab (n:=100000) (l:=[]) follows Zac trivial (by kernel_rfl)
def aw79:Fact:=⟨71,[(.int .i64 5),(.int .i64 2)],(.int .i64 10),none⟩
theorem Zc7:Zah Try.prog aw79.f aw79.args aw79.r aw79.fr:=Zab (n:=100000) (l:=[]) follows Zac trivial (by kernel_rfl)
def aw80:Fact:=⟨71,[(.int .i64 10),(.int .i64 2)],(.int .i64 7),none⟩
theorem ZeG:Zah Try.prog aw80.f aw80.args aw80.r aw80.fr:=Zab (n:=100000) (l:=[]) follows Zac trivial (by kernel_rfl)
def aw81:Fact:=⟨71,[(.int .i64 7),(.int .i64 2)],(.int .i64 14),none⟩
theorem Zgt:Zah Try.prog aw81.f aw81.args aw81.r aw81.fr:=Zab (n:=100000) (l:=[]) follows Zac trivial (by kernel_rfl)
def aw82:Fact:=⟨71,[(.int .i64 14),(.int .i64 2)],(.int .i64 15),none⟩
theorem ZkJ:Zah Try.prog aw82.f aw82.args aw82.r aw82.fr:=Zab (n:=100000) (l:=[]) follows Zac trivial (by kernel_rfl)
def aw83:Fact:=⟨71,[(.int .i64 15),(.int .i64 2)],(.int .i64 13),none⟩
theorem ZmN:Zah Try.prog aw83.f aw83.args aw83.r aw83.fr:=Zab (n:=100000) (l:=[]) follows Zac trivial (by kernel_rfl)
def aw84:Fact:=⟨71,[(.int .i64 13),(.int .i64 2)],(.int .i64 9),none⟩
theorem ZxK:Zah Try.prog aw84.f aw84.args aw84.r aw84.fr:=Zab (n:=100000) (l:=[]) follows Zac trivial (by kernel_rfl)
def aw85:Fact:=⟨117,[(.int .i64 14)],(.int .i64 9),none⟩
theorem Zsd:Zah Try.prog aw85.f aw85.args aw85.r aw85.fr:=Zab (n:=100000) (l:=[aw71,aw72,aw73,aw74,aw75,aw76,aw77,aw78,aw79,aw80,aw81,aw82,aw83,aw84]) follows Zac ⟨ZaN,⟨ZaP,⟨Za0,⟨Zbg,⟨Zbf,⟨ZbE,⟨Zb5,⟨ZcE,⟨Zc7,⟨ZeG,⟨Zgt,⟨ZkJ,⟨ZmN,⟨ZxK,trivial⟩⟩⟩⟩⟩⟩⟩⟩⟩⟩⟩⟩⟩⟩ (by kernel_rfl)
def aw86:Fact:=⟨71,[(.int .i64 0),(.int .i64 9)],(.int .i64 0),none⟩
theorem ZmE:Zah Try.prog aw86.f aw86.args aw86.r aw86.fr:=Zab (n:=100000) (l:=[]) follows Zac trivial (by kernel_rfl)
def aw87:Fact:=⟨117,[(.int .i64 13)],(.int .i64 13),none⟩
theorem ZyG:Zah Try.prog aw87.f aw87.args aw87.r aw87.fr:=Zab (n:=100000) (l:=[aw71,aw72,aw73,aw74,aw75,aw76,aw77,aw78,aw79,aw80,aw81,aw82,aw83]) follows Zac ⟨ZaN,⟨ZaP,⟨Za0,⟨Zbg,⟨Zbf,⟨ZbE,⟨Zb5,⟨ZcE,⟨Zc7,⟨ZeG,⟨Zgt,⟨ZkJ,⟨ZmN,trivial⟩⟩⟩⟩⟩⟩⟩⟩⟩⟩⟩⟩⟩ (by kernel_rfl)
def aw88:Fact:=⟨71,[(.int .i64 0),(.int .i64 13)],(.int .i64 0),none⟩
theorem ZrN:Zah Try.prog aw88.f aw88.args aw88.r aw88.fr:=Zab (n:=100000) (l:=[]) follows Zac trivial (by kernel_rfl)
def aw89:Fact:=⟨117,[(.int .i64 12)],(.int .i64 15),none⟩
theorem ZrI:Zah Try.prog aw89.f aw89.args aw89.r aw89.fr:=Zab (n:=100000) (l:=[aw71,aw72,aw73,aw74,aw75,aw76,aw77,aw78,aw79,aw80,aw81,aw82]) follows Zac ⟨ZaN,⟨ZaP,⟨Za0,⟨Zbg,⟨Zbf,⟨ZbE,⟨Zb5,⟨ZcE,⟨Zc7,⟨ZeG,⟨Zgt,⟨ZkJ,trivial⟩⟩⟩⟩⟩⟩⟩⟩⟩⟩⟩⟩ (by kernel_rfl)
def aw90:Fact:=⟨71,[(.int .i64 0),(.int .i64 15)],(.int .i64 0),none⟩
theorem Zse:Zah Try.prog aw90.f aw90.args aw90.r aw90.fr:=Zab (n:=100000) (l:=[]) follows Zac trivial (by kernel_rfl)
def aw91:Fact:=⟨117,[(.int .i64 11)],(.int .i64 14),none⟩
theorem Zyw:Zah Try.prog aw91.f aw91.args aw91.r aw91.fr:=Zab (n:=100000) (l:=[aw71,aw72,aw73,aw74,aw75,aw76,aw77,aw78,aw79,aw80,aw81]) follows Zac ⟨ZaN,⟨ZaP,⟨Za0,⟨Zbg,⟨Zbf,⟨ZbE,⟨Zb5,⟨ZcE,⟨Zc7,⟨ZeG,⟨Zgt,trivial⟩⟩⟩⟩⟩⟩⟩⟩⟩⟩⟩ (by kernel_rfl)
def aw92:Fact:=⟨71,[(.int .i64 0),(.int .i64 14)],(.int .i64 0),none⟩
theorem Znj:Zah Try.prog aw92.f aw92.args aw92.r aw92.fr:=Zab (n:=100000) (l:=[]) follows Zac trivial (by kernel_rfl)
def aw93:Fact:=⟨117,[(.int .i64 10)],(.int .i64 7),none⟩
theorem Zsm:Zah Try.prog aw93.f aw93.args aw93.r aw93.fr:=Zab (n:=100000) (l:=[aw71,aw72,aw73,aw74,aw75,aw76,aw77,aw78,aw79,aw80]) follows Zac ⟨ZaN,⟨ZaP,⟨Za0,⟨Zbg,⟨Zbf,⟨ZbE,⟨Zb5,⟨ZcE,⟨Zc7,⟨ZeG,trivial⟩⟩⟩⟩⟩⟩⟩⟩⟩⟩ (by kernel_rfl)
def aw94:Fact:=⟨71,[(.int .i64 0),(.int .i64 7)],(.int .i64 0),none⟩
theorem Zrk:Zah Try.prog aw94.f aw94.args aw94.r aw94.fr:=Zab (n:=100000) (l:=[]) follows Zac trivial (by kernel_rfl)
def aw95:Fact:=⟨117,[(.int .i64 9)],(.int .i64 10),none⟩
theorem ZyI:Zah Try.prog aw95.f aw95.args aw95.r aw95.fr:=Zab (n:=100000) (l:=[aw71,aw72,aw73,aw74,aw75,aw76,aw77,aw78,aw79]) follows Zac ⟨ZaN,⟨ZaP,⟨Za0,⟨Zbg,⟨Zbf,⟨ZbE,⟨Zb5,⟨ZcE,⟨Zc7,trivial⟩⟩⟩⟩⟩⟩⟩⟩⟩ (by kernel_rfl)
def aw96:Fact:=⟨71,[(.int .i64 0),(.int .i64 10)],(.int .i64 0),none⟩
theorem ZrM:Zah Try.prog aw96.f aw96.args aw96.r aw96.fr:=Zab (n:=100000) (l:=[]) follows Zac trivial (by kernel_rfl)
def aw97:Fact:=⟨117,[(.int .i64 8)],(.int .i64 5),none⟩
theorem Zqy:Zah Try.prog aw97.f aw97.args aw97.r aw97.fr:=Zab (n:=100000) (l:=[aw71,aw72,aw73,aw74,aw75,aw76,aw77,aw78]) follows Zac ⟨ZaN,⟨ZaP,⟨Za0,⟨Zbg,⟨Zbf,⟨ZbE,⟨Zb5,⟨ZcE,trivial⟩⟩⟩⟩⟩⟩⟩⟩ (by kernel_rfl)
def aw98:Fact:=⟨71,[(.int .i64 0),(.int .i64 5)],(.int .i64 0),none⟩
theorem Zrp:Zah Try.prog aw98.f aw98.args aw98.r aw98.fr:=Zab (n:=100000) (l:=[]) follows Zac trivial (by kernel_rfl)
def aw99:Fact:=⟨117,[(.int .i64 7)],(.int .i64 11),none⟩
theorem ZyP:Zah Try.prog aw99.f aw99.args aw99.r aw99.fr:=Zab (n:=100000) (l:=[aw71,aw72,aw73,aw74,aw75,aw76,aw77]) follows Zac ⟨ZaN,⟨ZaP,⟨Za0,⟨Zbg,⟨Zbf,⟨ZbE,⟨Zb5,trivial⟩⟩⟩⟩⟩⟩⟩ (by kernel_rfl)
def aw100:Fact:=⟨71,[(.int .i64 0),(.int .i64 11)],(.int .i64 0),none⟩
theorem ZnN:Zah Try.prog aw100.f aw100.args aw100.r aw100.fr:=Zab (n:=100000) (l:=[]) follows Zac trivial (by kernel_rfl)
def aw101:Fact:=⟨117,[(.int .i64 6)],(.int .i64 12),none⟩
theorem ZoG:Zah Try.prog aw101.f aw101.args aw101.r aw101.fr:=Zab (n:=100000) (l:=[aw71,aw72,aw73,aw74,aw75,aw76]) follows Zac ⟨ZaN,⟨ZaP,⟨Za0,⟨Zbg,⟨Zbf,⟨ZbE,trivial⟩⟩⟩⟩⟩⟩ (by kernel_rfl)
def aw102:Fact:=⟨71,[(.int .i64 0),(.int .i64 12)],(.int .i64 0),none⟩
theorem ZnF:Zah Try.prog aw102.f aw102.args aw102.r aw102.fr:=Zab (n:=100000) (l:=[]) follows Zac trivial (by kernel_rfl)
def aw103:Fact:=⟨117,[(.int .i64 5)],(.int .i64 6),none⟩
theorem Ztc:Zah Try.prog aw103.f aw103.args aw103.r aw103.fr:=Zab (n:=100000) (l:=[aw71,aw72,aw73,aw74,aw75]) follows Zac ⟨ZaN,⟨ZaP,⟨Za0,⟨Zbg,⟨Zbf,trivial⟩⟩⟩⟩⟩ (by kernel_rfl)
def aw104:Fact:=⟨71,[(.int .i64 0),(.int .i64 6)],(.int .i64 0),none⟩
theorem Zog:Zah Try.prog aw104.f aw104.args aw104.r aw104.fr:=Zab (n:=100000) (l:=[]) follows Zac trivial (by kernel_rfl)
def aw105:Fact:=⟨117,[(.int .i64 4)],(.int .i64 3),none⟩
theorem Zny:Zah Try.prog aw105.f aw105.args aw105.r aw105.fr:=Zab (n:=100000) (l:=[aw71,aw72,aw73,aw74]) follows Zac ⟨ZaN,⟨ZaP,⟨Za0,⟨Zbg,trivial⟩⟩⟩⟩ (by kernel_rfl)
def aw106:Fact:=⟨71,[(.int .i64 0),(.int .i64 3)],(.int .i64 0),none⟩
theorem ZtJ:Zah Try.prog aw106.f aw106.args aw106.r aw106.fr:=Zab (n:=100000) (l:=[]) follows Zac trivial (by kernel_rfl)
def aw107:Fact:=⟨117,[(.int .i64 3)],(.int .i64 8),none⟩
theorem Zum:Zah Try.prog aw107.f aw107.args aw107.r aw107.fr:=Zab (n:=100000) (l:=[aw71,aw72,aw73]) follows Zac ⟨ZaN,⟨ZaP,⟨Za0,trivial⟩⟩⟩ (by kernel_rfl)
def aw108:Fact:=⟨71,[(.int .i64 0),(.int .i64 8)],(.int .i64 0),none⟩
theorem Zon:Zah Try.prog aw108.f aw108.args aw108.r aw108.fr:=Zab (n:=100000) (l:=[]) follows Zac trivial (by kernel_rfl)
def aw109:Fact:=⟨117,[(.int .i64 2)],(.int .i64 4),none⟩
theorem Zj6:Zah Try.prog aw109.f aw109.args aw109.r aw109.fr:=Zab (n:=100000) (l:=[aw71,aw72]) follows Zac ⟨ZaN,⟨ZaP,trivial⟩⟩ (by kernel_rfl)
def aw110:Fact:=⟨71,[(.int .i64 1),(.int .i64 4)],(.int .i64 4),none⟩
theorem Zom:Zah Try.prog aw110.f aw110.args aw110.r aw110.fr:=Zab (n:=100000) (l:=[]) follows Zac trivial (by kernel_rfl)
def aw111:Fact:=⟨117,[(.int .i64 1)],(.int .i64 2),none⟩
theorem Zob:Zah Try.prog aw111.f aw111.args aw111.r aw111.fr:=Zab (n:=100000) (l:=[aw71]) follows Zac ⟨ZaN,trivial⟩ (by kernel_rfl)
def aw112:Fact:=⟨71,[(.int .i64 0),(.int .i64 2)],(.int .i64 0),none⟩
theorem Zoq:Zah Try.prog aw112.f aw112.args aw112.r aw112.fr:=Zab (n:=100000) (l:=[]) follows Zac trivial (by kernel_rfl)
def aw113:Fact:=⟨117,[(.int .i64 0)],(.int .i64 1),none⟩
theorem Zkn:Zah Try.prog aw113.f aw113.args aw113.r aw113.fr:=Zab (n:=100000) (l:=[]) follows Zac trivial (by kernel_rfl)
def aw114:Fact:=⟨71,[(.int .i64 0),(.int .i64 1)],(.int .i64 0),none⟩
theorem ZnC:Zah Try.prog aw114.f aw114.args aw114.r aw114.fr:=Zab (n:=100000) (l:=[]) follows Zac trivial (by kernel_rfl)
def aw115:Fact:=⟨112,[(.agg (.ints .i64 [0,0,0,0,0,0,0,0,0,0,0,0,1,0,0])),(.int .i64 1)],(.int .i64 4),none⟩
theorem ZuE:Zah Try.prog aw115.f aw115.args aw115.r aw115.fr:=Zab (n:=100000) (l:=[aw85,aw86,aw87,aw88,aw89,aw90,aw91,aw92,aw93,aw94,aw95,aw96,aw97,aw98,aw99,aw100,aw101,aw102,aw103,aw104,aw105,aw106,aw107,aw108,aw109,aw110,aw111,aw112,aw113,aw114]) follows Zac ⟨Zsd,⟨ZmE,⟨ZyG,⟨ZrN,⟨ZrI,⟨Zse,⟨Zyw,⟨Znj,⟨Zsm,⟨Zrk,⟨ZyI,⟨ZrM,⟨Zqy,⟨Zrp,⟨ZyP,⟨ZnN,⟨ZoG,⟨ZnF,⟨Ztc,⟨Zog,⟨Zny,⟨ZtJ,⟨Zum,⟨Zon,⟨Zj6,⟨Zom,⟨Zob,⟨Zoq,⟨Zkn,⟨ZnC,trivial⟩⟩⟩⟩⟩⟩⟩⟩⟩⟩⟩⟩⟩⟩⟩⟩⟩⟩⟩⟩⟩⟩⟩⟩⟩⟩⟩⟩⟩⟩ (by kernel_rfl)
def aw116:Fact:=⟨117,[(.int .i64 28)],(.int .i64 13),none⟩
theorem ZtD:Zah Try.prog aw116.f aw116.args aw116.r aw116.fr:=Zab (n:=100000) (l:=[aw71,aw72,aw73,aw74,aw75,aw76,aw77,aw78,aw79,aw80,aw81,aw82,aw83]) follows Zac ⟨ZaN,⟨ZaP,⟨Za0,⟨Zbg,⟨Zbf,⟨ZbE,⟨Zb5,⟨ZcE,⟨Zc7,⟨ZeG,⟨Zgt,⟨ZkJ,⟨ZmN,trivial⟩⟩⟩⟩⟩⟩⟩⟩⟩⟩⟩⟩⟩ (by kernel_rfl)
def aw117:Fact:=⟨117,[(.int .i64 26)],(.int .i64 14),none⟩
theorem Zut:Zah Try.prog aw117.f aw117.args aw117.r aw117.fr:=Zab (n:=100000) (l:=[aw71,aw72,aw73,aw74,aw75,aw76,aw77,aw78,aw79,aw80,aw81]) follows Zac ⟨ZaN,⟨ZaP,⟨Za0,⟨Zbg,⟨Zbf,⟨ZbE,⟨Zb5,⟨ZcE,⟨Zc7,⟨ZeG,⟨Zgt,trivial⟩⟩⟩⟩⟩⟩⟩⟩⟩⟩⟩ (by kernel_rfl)
def aw118:Fact:=⟨117,[(.int .i64 24)],(.int .i64 10),none⟩
theorem Zub:Zah Try.prog aw118.f aw118.args aw118.r aw118.fr:=Zab (n:=100000) (l:=[aw71,aw72,aw73,aw74,aw75,aw76,aw77,aw78,aw79]) follows Zac ⟨ZaN,⟨ZaP,⟨Za0,⟨Zbg,⟨Zbf,⟨ZbE,⟨Zb5,⟨ZcE,⟨Zc7,trivial⟩⟩⟩⟩⟩⟩⟩⟩⟩ (by kernel_rfl)
def aw119:Fact:=⟨117,[(.int .i64 22)],(.int .i64 11),none⟩
theorem ZsH:Zah Try.prog aw119.f aw119.args aw119.r aw119.fr:=Zab (n:=100000) (l:=[aw71,aw72,aw73,aw74,aw75,aw76,aw77]) follows Zac ⟨ZaN,⟨ZaP,⟨Za0,⟨Zbg,⟨Zbf,⟨ZbE,⟨Zb5,trivial⟩⟩⟩⟩⟩⟩⟩ (by kernel_rfl)
def aw120:Fact:=⟨117,[(.int .i64 20)],(.int .i64 6),none⟩
theorem Zsw:Zah Try.prog aw120.f aw120.args aw120.r aw120.fr:=Zab (n:=100000) (l:=[aw71,aw72,aw73,aw74,aw75]) follows Zac ⟨ZaN,⟨ZaP,⟨Za0,⟨Zbg,⟨Zbf,trivial⟩⟩⟩⟩⟩ (by kernel_rfl)
def aw121:Fact:=⟨117,[(.int .i64 18)],(.int .i64 8),none⟩
theorem ZsT:Zah Try.prog aw121.f aw121.args aw121.r aw121.fr:=Zab (n:=100000) (l:=[aw71,aw72,aw73]) follows Zac ⟨ZaN,⟨ZaP,⟨Za0,trivial⟩⟩⟩ (by kernel_rfl)
def aw122:Fact:=⟨117,[(.int .i64 16)],(.int .i64 2),none⟩
theorem Zu2:Zah Try.prog aw122.f aw122.args aw122.r aw122.fr:=Zab (n:=100000) (l:=[aw71]) follows Zac ⟨ZaN,trivial⟩ (by kernel_rfl)
def aw123:Fact:=⟨71,[(.int .i64 1),(.int .i64 3)],(.int .i64 3),none⟩
theorem Zt2:Zah Try.prog aw123.f aw123.args aw123.r aw123.fr:=Zab (n:=100000) (l:=[]) follows Zac trivial (by kernel_rfl)
def aw124:Fact:=⟨71,[(.int .i64 0),(.int .i64 4)],(.int .i64 0),none⟩
theorem Zt8:Zah Try.prog aw124.f aw124.args aw124.r aw124.fr:=Zab (n:=100000) (l:=[]) follows Zac trivial (by kernel_rfl)
def aw125:Fact:=⟨112,[(.agg (.ints .i64 [0,0,0,0,0,0,0,0,0,0,0,0,1,0,0])),(.int .i64 2)],(.int .i64 3),none⟩
theorem Zt0:Zah Try.prog aw125.f aw125.args aw125.r aw125.fr:=Zab (n:=100000) (l:=[aw116,aw88,aw117,aw92,aw118,aw96,aw119,aw100,aw120,aw104,aw121,aw108,aw122,aw112,aw85,aw86,aw89,aw90,aw93,aw94,aw97,aw98,aw101,aw102,aw105,aw123,aw109,aw124,aw113,aw114]) follows Zac ⟨ZtD,⟨ZrN,⟨Zut,⟨Znj,⟨Zub,⟨ZrM,⟨ZsH,⟨ZnN,⟨Zsw,⟨Zog,⟨ZsT,⟨Zon,⟨Zu2,⟨Zoq,⟨Zsd,⟨ZmE,⟨ZrI,⟨Zse,⟨Zsm,⟨Zrk,⟨Zqy,⟨Zrp,⟨ZoG,⟨ZnF,⟨Zny,⟨Zt2,⟨Zj6,⟨Zt8,⟨Zkn,⟨ZnC,trivial⟩⟩⟩⟩⟩⟩⟩⟩⟩⟩⟩⟩⟩⟩⟩⟩⟩⟩⟩⟩⟩⟩⟩⟩⟩⟩⟩⟩⟩⟩ (by kernel_rfl)
def aw126:Fact:=⟨75,[(.agg (.ints .i64 [0,0,0,0,0,0,0,0,0,0,0,0,1,0,0])),(.int .i64 1)],(.row 0 0),(some ⟨3,1,(.ints .i64 [4,3])⟩)⟩
theorem ZuW:Zah Try.prog aw126.f aw126.args aw126.r aw126.fr:=Zab (n:=100000) (l:=[aw115,aw125]) follows Zac ⟨ZuE,⟨Zt0,trivial⟩⟩ (by kernel_rfl)
def aw127:Fact:=⟨71,[(.int .i64 2),(.int .i64 1)],(.int .i64 2),none⟩
theorem ZsV:Zah Try.prog aw127.f aw127.args aw127.r aw127.fr:=Zab (n:=100000) (l:=[]) follows Zac trivial (by kernel_rfl)
def aw128:Fact:=⟨71,[(.int .i64 2),(.int .i64 3)],(.int .i64 6),none⟩
theorem Zuk:Zah Try.prog aw128.f aw128.args aw128.r aw128.fr:=Zab (n:=100000) (l:=[]) follows Zac trivial (by kernel_rfl)
def aw129:Fact:=⟨71,[(.int .i64 2),(.int .i64 4)],(.int .i64 8),none⟩
theorem ZoH:Zah Try.prog aw129.f aw129.args aw129.r aw129.fr:=Zab (n:=100000) (l:=[]) follows Zac trivial (by kernel_rfl)
def aw130:Fact:=⟨71,[(.int .i64 2),(.int .i64 5)],(.int .i64 10),none⟩
theorem ZuX:Zah Try.prog aw130.f aw130.args aw130.r aw130.fr:=Zab (n:=100000) (l:=[]) follows Zac trivial (by kernel_rfl)
def aw131:Fact:=⟨71,[(.int .i64 2),(.int .i64 6)],(.int .i64 12),none⟩
theorem ZsN:Zah Try.prog aw131.f aw131.args aw131.r aw131.fr:=Zab (n:=100000) (l:=[]) follows Zac trivial (by kernel_rfl)
def aw132:Fact:=⟨71,[(.int .i64 2),(.int .i64 7)],(.int .i64 14),none⟩
theorem Zs8:Zah Try.prog aw132.f aw132.args aw132.r aw132.fr:=Zab (n:=100000) (l:=[]) follows Zac trivial (by kernel_rfl)
def aw133:Fact:=⟨71,[(.int .i64 2),(.int .i64 8)],(.int .i64 3),none⟩
theorem Ztk:Zah Try.prog aw133.f aw133.args aw133.r aw133.fr:=Zab (n:=100000) (l:=[]) follows Zac trivial (by kernel_rfl)
def aw134:Fact:=⟨71,[(.int .i64 2),(.int .i64 9)],(.int .i64 1),none⟩
theorem Zor:Zah Try.prog aw134.f aw134.args aw134.r aw134.fr:=Zab (n:=100000) (l:=[]) follows Zac trivial (by kernel_rfl)
def aw135:Fact:=⟨128,[(.int .i64 2)],(.int .i64 9),none⟩
theorem Zs6:Zah Try.prog aw135.f aw135.args aw135.r aw135.fr:=Zab (n:=100000) (l:=[aw127,aw72,aw128,aw129,aw130,aw131,aw132,aw133,aw134]) follows Zac ⟨ZsV,⟨ZaP,⟨Zuk,⟨ZoH,⟨ZuX,⟨ZsN,⟨Zs8,⟨Ztk,⟨Zor,trivial⟩⟩⟩⟩⟩⟩⟩⟩⟩ (by kernel_rfl)
def aw136:Fact:=⟨71,[(.int .i64 1),(.int .i64 9)],(.int .i64 9),none⟩
theorem ZuJ:Zah Try.prog aw136.f aw136.args aw136.r aw136.fr:=Zab (n:=100000) (l:=[]) follows Zac trivial (by kernel_rfl)
def aw137:Fact:=⟨71,[(.int .i64 4),(.int .i64 9)],(.int .i64 2),none⟩
theorem ZuG:Zah Try.prog aw137.f aw137.args aw137.r aw137.fr:=Zab (n:=100000) (l:=[]) follows Zac trivial (by kernel_rfl)
def aw138:Fact:=⟨71,[(.int .i64 9),(.int .i64 4)],(.int .i64 2),none⟩
theorem Zup:Zah Try.prog aw138.f aw138.args aw138.r aw138.fr:=Zab (n:=100000) (l:=[]) follows Zac trivial (by kernel_rfl)
def aw139:Fact:=⟨71,[(.int .i64 3),(.int .i64 1)],(.int .i64 3),none⟩
theorem Zta:Zah Try.prog aw139.f aw139.args aw139.r aw139.fr:=Zab (n:=100000) (l:=[]) follows Zac trivial (by kernel_rfl)
def aw140:Fact:=⟨71,[(.int .i64 3),(.int .i64 3)],(.int .i64 5),none⟩
theorem ZuD:Zah Try.prog aw140.f aw140.args aw140.r aw140.fr:=Zab (n:=100000) (l:=[]) follows Zac trivial (by kernel_rfl)
def aw141:Fact:=⟨71,[(.int .i64 3),(.int .i64 4)],(.int .i64 12),none⟩
theorem Zun:Zah Try.prog aw141.f aw141.args aw141.r aw141.fr:=Zab (n:=100000) (l:=[]) follows Zac trivial (by kernel_rfl)
def aw142:Fact:=⟨71,[(.int .i64 3),(.int .i64 5)],(.int .i64 15),none⟩
theorem Zte:Zah Try.prog aw142.f aw142.args aw142.r aw142.fr:=Zab (n:=100000) (l:=[]) follows Zac trivial (by kernel_rfl)
def aw143:Fact:=⟨71,[(.int .i64 3),(.int .i64 6)],(.int .i64 10),none⟩
theorem ZsX:Zah Try.prog aw143.f aw143.args aw143.r aw143.fr:=Zab (n:=100000) (l:=[]) follows Zac trivial (by kernel_rfl)
def aw144:Fact:=⟨71,[(.int .i64 3),(.int .i64 7)],(.int .i64 9),none⟩
theorem Ztq:Zah Try.prog aw144.f aw144.args aw144.r aw144.fr:=Zab (n:=100000) (l:=[]) follows Zac trivial (by kernel_rfl)
def aw145:Fact:=⟨71,[(.int .i64 3),(.int .i64 8)],(.int .i64 11),none⟩
theorem ZsG:Zah Try.prog aw145.f aw145.args aw145.r aw145.fr:=Zab (n:=100000) (l:=[]) follows Zac trivial (by kernel_rfl)
def aw146:Fact:=⟨71,[(.int .i64 3),(.int .i64 9)],(.int .i64 8),none⟩
theorem ZuT:Zah Try.prog aw146.f aw146.args aw146.r aw146.fr:=Zab (n:=100000) (l:=[]) follows Zac trivial (by kernel_rfl)
def aw147:Fact:=⟨71,[(.int .i64 3),(.int .i64 10)],(.int .i64 13),none⟩
theorem ZtP:Zah Try.prog aw147.f aw147.args aw147.r aw147.fr:=Zab (n:=100000) (l:=[]) follows Zac trivial (by kernel_rfl)
def aw148:Fact:=⟨71,[(.int .i64 3),(.int .i64 11)],(.int .i64 14),none⟩
theorem Ztf:Zah Try.prog aw148.f aw148.args aw148.r aw148.fr:=Zab (n:=100000) (l:=[]) follows Zac trivial (by kernel_rfl)
def aw149:Fact:=⟨71,[(.int .i64 3),(.int .i64 12)],(.int .i64 7),none⟩
theorem ZtE:Zah Try.prog aw149.f aw149.args aw149.r aw149.fr:=Zab (n:=100000) (l:=[]) follows Zac trivial (by kernel_rfl)
def aw150:Fact:=⟨71,[(.int .i64 3),(.int .i64 13)],(.int .i64 4),none⟩
theorem Zu0:Zah Try.prog aw150.f aw150.args aw150.r aw150.fr:=Zab (n:=100000) (l:=[]) follows Zac trivial (by kernel_rfl)
def aw151:Fact:=⟨71,[(.int .i64 3),(.int .i64 14)],(.int .i64 1),none⟩
theorem Zoo:Zah Try.prog aw151.f aw151.args aw151.r aw151.fr:=Zab (n:=100000) (l:=[]) follows Zac trivial (by kernel_rfl)
def aw152:Fact:=⟨128,[(.int .i64 3)],(.int .i64 14),none⟩
theorem ZsU:Zah Try.prog aw152.f aw152.args aw152.r aw152.fr:=Zab (n:=100000) (l:=[aw139,aw75,aw140,aw141,aw142,aw143,aw144,aw145,aw146,aw147,aw148,aw149,aw150,aw151]) follows Zac ⟨Zta,⟨Zbf,⟨ZuD,⟨Zun,⟨Zte,⟨ZsX,⟨Ztq,⟨ZsG,⟨ZuT,⟨ZtP,⟨Ztf,⟨ZtE,⟨Zu0,⟨Zoo,trivial⟩⟩⟩⟩⟩⟩⟩⟩⟩⟩⟩⟩⟩⟩ (by kernel_rfl)
def aw153:Fact:=⟨71,[(.int .i64 11),(.int .i64 14)],(.int .i64 8),none⟩
theorem ZuV:Zah Try.prog aw153.f aw153.args aw153.r aw153.fr:=Zab (n:=100000) (l:=[]) follows Zac trivial (by kernel_rfl)
def aw154:Fact:=⟨71,[(.int .i64 8),(.int .i64 9)],(.int .i64 4),none⟩
theorem Ztd:Zah Try.prog aw154.f aw154.args aw154.r aw154.fr:=Zab (n:=100000) (l:=[]) follows Zac trivial (by kernel_rfl)
def aw155:Fact:=⟨92,[(.agg (.ints .i64 [0,0,0,0,0,0,0,0,0,0,0,0,1,0,0])),(.int .i64 1),(.list (.ints .i64 [13,14]))],(.tup [(.agg (.ints .i64 [0,0,0,0,0,0,0,0,0,0,0,0,1,6,8])),(.bool true)]),none⟩
theorem ZtH:Zah Try.prog aw155.f aw155.args aw155.r aw155.fr:=Zab (n:=100000) (l:=[aw126,aw111,aw113,aw109,aw135,aw134,aw136,aw137,aw110,aw138,aw129,aw152,aw92,aw151,aw153,aw86,aw154]) follows Zac ⟨ZuW,⟨Zob,⟨Zkn,⟨Zj6,⟨Zs6,⟨Zor,⟨ZuJ,⟨ZuG,⟨Zom,⟨Zup,⟨ZoH,⟨ZsU,⟨Znj,⟨Zoo,⟨ZuV,⟨ZmE,⟨Ztd,trivial⟩⟩⟩⟩⟩⟩⟩⟩⟩⟩⟩⟩⟩⟩⟩⟩⟩ (by kernel_rfl)
def aw156:Fact:=⟨76,[(.int .i64 1),(.list (.ints .i64 [0,0,0,0,0,0,0,0,0,0,0,0,1]))],(.agg (.ints .i64 [0,0,0,0,0,0,0,0,0,0,0,0,1,6,8])),none⟩
theorem Zs4:Zah Try.prog aw156.f aw156.args aw156.r aw156.fr:=Zab (n:=100000) (l:=[aw155]) follows Zac ⟨ZtH,trivial⟩ (by kernel_rfl)
def aw157:Fact:=⟨62,[],(.agg (.gen [(.int .i64 3),(.list (.gen [(.list (.ints .i64 [0,1])),(.list (.ints .i64 [1,2]))]))])),none⟩
theorem Ztx:Zah Try.prog aw157.f aw157.args aw157.r aw157.fr:=Zab (n:=100000) (l:=[]) follows Zac trivial (by kernel_rfl)
def aw158:Fact:=⟨91,[(.int .i64 3),(.int .i64 1),(.int .i64 24)],(.bool true),none⟩
theorem Ztu:Zah Try.prog aw158.f aw158.args aw158.r aw158.fr:=Zab (n:=100000) (l:=[]) follows Zac trivial (by kernel_rfl)
def aw159:Fact:=⟨91,[(.int .i64 0),(.int .i64 0),(.int .i64 2)],(.bool true),none⟩
theorem ZsB:Zah Try.prog aw159.f aw159.args aw159.r aw159.fr:=Zab (n:=100000) (l:=[]) follows Zac trivial (by kernel_rfl)
def aw160:Fact:=⟨85,[(.bool true),(.int .i64 6)],(.int .i64 0),none⟩
theorem ZtZ:Zah Try.prog aw160.f aw160.args aw160.r aw160.fr:=Zab (n:=100000) (l:=[]) follows Zac trivial (by kernel_rfl)
def aw161:Fact:=⟨85,[(.bool true),(.int .i64 9)],(.int .i64 0),none⟩
theorem ZuH:Zah Try.prog aw161.f aw161.args aw161.r aw161.fr:=Zab (n:=100000) (l:=[]) follows Zac trivial (by kernel_rfl)
def aw162:Fact:=⟨91,[(.int .i64 1),(.int .i64 0),(.int .i64 2)],(.bool true),none⟩
theorem ZuA:Zah Try.prog aw162.f aw162.args aw162.r aw162.fr:=Zab (n:=100000) (l:=[]) follows Zac trivial (by kernel_rfl)
def aw163:Fact:=⟨91,[(.int .i64 2),(.int .i64 0),(.int .i64 2)],(.bool true),none⟩
theorem Zt9:Zah Try.prog aw163.f aw163.args aw163.r aw163.fr:=Zab (n:=100000) (l:=[]) follows Zac trivial (by kernel_rfl)
def aw164:Fact:=⟨132,[(.agg (.gen [(.int .i64 3),(.list (.gen [(.list (.ints .i64 [0,1])),(.list (.ints .i64 [1,2]))]))]))],(.tup [(.int .i64 0),(.int .i64 0)]),none⟩
theorem ZtM:Zah Try.prog aw164.f aw164.args aw164.r aw164.fr:=Zab (n:=100000) (l:=[aw158,aw9,aw13,aw69,aw159,aw160,aw161,aw162,aw163]) follows Zac ⟨Ztu,⟨Zir,⟨Zsn,⟨ZkO,⟨ZsB,⟨ZtZ,⟨ZuH,⟨ZuA,⟨Zt9,trivial⟩⟩⟩⟩⟩⟩⟩⟩⟩ (by kernel_rfl)
def aw165:Fact:=⟨120,[(.agg (.gen [(.int .i64 3),(.list (.gen [(.list (.ints .i64 [0,1])),(.list (.ints .i64 [1,2]))]))]))],(.int .i64 0),none⟩
theorem ZtF:Zah Try.prog aw165.f aw165.args aw165.r aw165.fr:=Zab (n:=100000) (l:=[aw164]) follows Zac ⟨ZtM,trivial⟩ (by kernel_rfl)
def aw166:Fact:=⟨91,[(.int .i64 1),(.int .i64 0),(.int .i64 1)],(.bool true),none⟩
theorem ZuI:Zah Try.prog aw166.f aw166.args aw166.r aw166.fr:=Zab (n:=100000) (l:=[]) follows Zac trivial (by kernel_rfl)
def aw167:Fact:=⟨111,[(.int .i64 1),(.eptr (.int .i64 0) 0),(.eptr (.int .i64 1) 0)],(.bool false),none⟩
theorem ZsF:Zah Try.prog aw167.f aw167.args aw167.r aw167.fr:=Zab (n:=100000) (l:=[aw166]) follows Zac ⟨ZuI,trivial⟩ (by kernel_rfl)
def aw168:Fact:=⟨91,[(.int .i64 0),(.int .i64 0),(.int .i64 1)],(.bool true),none⟩
theorem Ztj:Zah Try.prog aw168.f aw168.args aw168.r aw168.fr:=Zab (n:=100000) (l:=[]) follows Zac trivial (by kernel_rfl)
def aw169:Fact:=⟨111,[(.int .i64 0),(.eptr (.int .i64 0) 0),(.eptr (.int .i64 1) 0)],(.bool false),none⟩
theorem Zt7:Zah Try.prog aw169.f aw169.args aw169.r aw169.fr:=Zab (n:=100000) (l:=[aw168]) follows Zac ⟨Ztj,trivial⟩ (by kernel_rfl)
def aw170:Fact:=⟨123,[(.list (.ints .i64 [1,0,0])),(.fn 111 [(.eptr (.int .i64 0) 0),(.eptr (.int .i64 1) 0)])],(.int .i64 (-1)),none⟩
theorem ZtK:Zah Try.prog aw170.f aw170.args aw170.r aw170.fr:=Zab (n:=100000) (l:=[aw167,aw169]) follows Zac ⟨ZsF,⟨Zt7,trivial⟩⟩ (by kernel_rfl)
def aw171:Fact:=⟨110,[(.list (.ints .i64 [1,0,0])),(.fn 111 [(.eptr (.int .i64 0) 0),(.eptr (.int .i64 1) 0)])],(.bool false),none⟩
theorem Zt4:Zah Try.prog aw171.f aw171.args aw171.r aw171.fr:=Zab (n:=100000) (l:=[aw170]) follows Zac ⟨ZtK,trivial⟩ (by kernel_rfl)
def aw172:Fact:=⟨70,[(.list (.ints .i64 [1,0,0])),(.int .i64 0),(.int .i64 1)],(.int .i64 0),none⟩
theorem Zuh:Zah Try.prog aw172.f aw172.args aw172.r aw172.fr:=Zab (n:=100000) (l:=[aw171,aw9]) follows Zac ⟨Zt4,⟨Zir,trivial⟩⟩ (by kernel_rfl)
def aw173:Fact:=⟨103,[(.agg (.gen [(.int .i64 3),(.list (.gen [(.list (.ints .i64 [0,1])),(.list (.ints .i64 [1,2]))]))])),(.list (.ints .i64 [1,0,0]))],(.int .i64 0),none⟩
theorem ZuF:Zah Try.prog aw173.f aw173.args aw173.r aw173.fr:=Zab (n:=100000) (l:=[aw165,aw12,aw172,aw21]) follows Zac ⟨ZtF,⟨Zm5,⟨Zuh,⟨Zsb,trivial⟩⟩⟩⟩ (by kernel_rfl)
def aw174:Fact:=⟨91,[(.int .i64 5),(.int .i64 0),(.int .i64 30)],(.bool true),none⟩
theorem ZsO:Zah Try.prog aw174.f aw174.args aw174.r aw174.fr:=Zab (n:=100000) (l:=[]) follows Zac trivial (by kernel_rfl)
def aw175:Fact:=⟨104,[(.list (.ints .i64 [1,0,0]))],(.row 0 0),(some ⟨3,1,(.ints .i64 [1,0,0])⟩)⟩
theorem ZnJ:Zah Try.prog aw175.f aw175.args aw175.r aw175.fr:=Zni _ (by decide)
def aw176:Fact:=⟨105,[(.agg (.gen [(.int .i64 3),(.list (.gen [(.list (.ints .i64 [0,1])),(.list (.ints .i64 [1,2]))]))])),(.list (.ints .i64 [1,0,0]))],(.row 0 0),(some ⟨3,1,(.ints .i64 [0])⟩)⟩
theorem Zn3:Zah Try.prog aw176.f aw176.args aw176.r aw176.fr:=Zab (n:=100000) (l:=[]) follows Zac trivial (by kernel_rfl)
def aw177:Fact:=⟨133,[(.list (.ints .i64 [0])),(.int .i64 0)],(.int .i64 0),none⟩
theorem ZtB:Zah Try.prog aw177.f aw177.args aw177.r aw177.fr:=Zab (n:=100000) (l:=[]) follows Zac trivial (by kernel_rfl)
def aw178:Fact:=⟨121,[(.list (.ints .i64 [0])),(.int .i64 0)],(.bool true),none⟩
theorem Zt1:Zah Try.prog aw178.f aw178.args aw178.r aw178.fr:=Zab (n:=100000) (l:=[aw177]) follows Zac ⟨ZtB,trivial⟩ (by kernel_rfl)
def aw179:Fact:=⟨133,[(.list (.ints .i64 [0])),(.int .i64 1)],(.int .i64 (-1)),none⟩
theorem Zu5:Zah Try.prog aw179.f aw179.args aw179.r aw179.fr:=Zab (n:=100000) (l:=[]) follows Zac trivial (by kernel_rfl)
def aw180:Fact:=⟨121,[(.list (.ints .i64 [0])),(.int .i64 1)],(.bool false),none⟩
theorem ZuZ:Zah Try.prog aw180.f aw180.args aw180.r aw180.fr:=Zab (n:=100000) (l:=[aw179]) follows Zac ⟨Zu5,trivial⟩ (by kernel_rfl)
def aw181:Fact:=⟨106,[(.agg (.gen [(.int .i64 3),(.list (.gen [(.list (.ints .i64 [0,1])),(.list (.ints .i64 [1,2]))]))])),(.list (.ints .i64 [1,0,0]))],(.row 0 0),(some ⟨3,1,(.ints .i64 [0,0,0])⟩)⟩
theorem Zuv:Zah Try.prog aw181.f aw181.args aw181.r aw181.fr:=Zab (n:=100000) (l:=[aw176,aw178,aw180,aw175]) follows Zac ⟨Zn3,⟨Zt1,⟨ZuZ,⟨ZnJ,trivial⟩⟩⟩⟩ (by kernel_rfl)
def aw182:Fact:=⟨105,[(.agg (.gen [(.int .i64 3),(.list (.gen [(.list (.ints .i64 [0,1])),(.list (.ints .i64 [1,2]))]))])),(.list (.ints .i64 [0,0,0]))], .nils,none⟩
theorem Zui:Zah Try.prog aw182.f aw182.args aw182.r aw182.fr:=Zab (n:=100000) (l:=[]) follows Zac trivial (by kernel_rfl)
def aw183:Fact:=⟨61,[(.agg (.gen [(.int .i64 3),(.list (.gen [(.list (.ints .i64 [0,1])),(.list (.ints .i64 [1,2]))]))])),(.list (.ints .i64 [1,0,0])),(.int .i64 5)],(.tup [(.row 0 0),(.int .i64 1),(.int .i64 0)]),(some ⟨3,1,(.ints .i64 [0,0,0])⟩)⟩
theorem Zth:Zah Try.prog aw183.f aw183.args aw183.r aw183.fr:=Zab (n:=100000) (l:=[aw173,aw174,aw9,aw69,aw175,aw176,aw181,aw182]) follows Zac ⟨ZuF,⟨ZsO,⟨Zir,⟨ZkO,⟨ZnJ,⟨Zn3,⟨Zuv,⟨Zui,trivial⟩⟩⟩⟩⟩⟩⟩⟩ (by kernel_rfl)
def aw184:Fact:=⟨83,[(.list (.ints .i64 [100000])),(.int .i64 4)],(.row 0 0),(some ⟨3,1,(.ints .i64 [100000,100000,100000,100000])⟩)⟩
theorem ZtQ:Zah Try.prog aw184.f aw184.args aw184.r aw184.fr:=Zab (n:=100000) (l:=[aw26]) follows Zac ⟨Zqm,trivial⟩ (by kernel_rfl)
def aw185:Fact:=⟨81,[(.int .i64 0),(.int .i64 1),(.eptr (.agg (.gen [(.int .i64 2),(.int .i64 7),(.int .i64 5)])) 0)],(.tup [(.int .i64 2),(.int .i64 2)]),none⟩
theorem Ztn:Zah Try.prog aw185.f aw185.args aw185.r aw185.fr:=Zab (n:=100000) (l:=[aw47]) follows Zac ⟨Zqv,trivial⟩ (by kernel_rfl)
def aw186:Fact:=⟨81,[(.int .i64 1),(.int .i64 0),(.eptr (.agg (.gen [(.int .i64 2),(.int .i64 7),(.int .i64 5)])) 0)],(.tup [(.int .i64 0),(.int .i64 2)]),none⟩
theorem Zsy:Zah Try.prog aw186.f aw186.args aw186.r aw186.fr:=Zab (n:=100000) (l:=[aw35]) follows Zac ⟨Zqk,trivial⟩ (by kernel_rfl)
def aw187:Fact:=⟨81,[(.int .i64 1),(.int .i64 1),(.eptr (.agg (.gen [(.int .i64 2),(.int .i64 7),(.int .i64 5)])) 0)],(.tup [(.int .i64 2),(.int .i64 0)]),none⟩
theorem Zux:Zah Try.prog aw187.f aw187.args aw187.r aw187.fr:=Zab (n:=100000) (l:=[aw50]) follows Zac ⟨Zrf,trivial⟩ (by kernel_rfl)
def aw188:Fact:=⟨81,[(.int .i64 2),(.int .i64 0),(.eptr (.agg (.gen [(.int .i64 2),(.int .i64 7),(.int .i64 5)])) 0)],(.tup [(.int .i64 1),(.int .i64 1)]),none⟩
theorem ZtR:Zah Try.prog aw188.f aw188.args aw188.r aw188.fr:=Zab (n:=100000) (l:=[aw39]) follows Zac ⟨Zqg,trivial⟩ (by kernel_rfl)
def aw189:Fact:=⟨81,[(.int .i64 2),(.int .i64 1),(.eptr (.agg (.gen [(.int .i64 2),(.int .i64 7),(.int .i64 5)])) 0)],(.tup [(.int .i64 3),(.int .i64 1)]),none⟩
theorem Zuw:Zah Try.prog aw189.f aw189.args aw189.r aw189.fr:=Zab (n:=100000) (l:=[aw53]) follows Zac ⟨ZpS,trivial⟩ (by kernel_rfl)
def aw190:Fact:=⟨81,[(.int .i64 3),(.int .i64 0),(.eptr (.agg (.gen [(.int .i64 2),(.int .i64 7),(.int .i64 5)])) 0)],(.tup [(.int .i64 1),(.int .i64 1)]),none⟩
theorem ZsA:Zah Try.prog aw190.f aw190.args aw190.r aw190.fr:=Zab (n:=100000) (l:=[aw42]) follows Zac ⟨ZrD,trivial⟩ (by kernel_rfl)
def aw191:Fact:=⟨81,[(.int .i64 3),(.int .i64 1),(.eptr (.agg (.gen [(.int .i64 2),(.int .i64 7),(.int .i64 5)])) 0)],(.tup [(.int .i64 3),(.int .i64 1)]),none⟩
theorem ZsZ:Zah Try.prog aw191.f aw191.args aw191.r aw191.fr:=Zab (n:=100000) (l:=[aw56]) follows Zac ⟨ZpQ,trivial⟩ (by kernel_rfl)
def aw192:Fact:=⟨32,[(.agg (.gen [(.int .i64 2),(.int .i64 7),(.int .i64 5)]))],(.tup [(.int .i64 5),(.int .i64 0)]),none⟩
theorem Zua:Zah Try.prog aw192.f aw192.args aw192.r aw192.fr:=Zab (n:=100000) (l:=[aw11,aw184,aw185,aw186,aw187,aw188,aw189,aw190,aw191]) follows Zac ⟨Zrb,⟨ZtQ,⟨Ztn,⟨Zsy,⟨Zux,⟨ZtR,⟨Zuw,⟨ZsA,⟨ZsZ,trivial⟩⟩⟩⟩⟩⟩⟩⟩⟩ (by kernel_rfl)
def aw193:Fact:=⟨17,[(.list (.ints .i64 [1,0])),(.list (.ints .i64 [1,0]))],(.bool true),none⟩
theorem Zu1:Zah Try.prog aw193.f aw193.args aw193.r aw193.fr:=Zab (n:=100000) (l:=[]) follows Zac trivial (by kernel_rfl)
def aw194:Fact:=⟨17,[(.list (.ints .i64 [0,0,0])),(.list (.ints .i64 [0,0,0]))],(.bool true),none⟩
theorem ZuS:Zah Try.prog aw194.f aw194.args aw194.r aw194.fr:=Zab (n:=100000) (l:=[]) follows Zac trivial (by kernel_rfl)
def aw195:Fact:=⟨12,[],(.bool true),none⟩
theorem ZtW:Zah Try.prog aw195.f aw195.args aw195.r aw195.fr:=Zab (n:=100000) (l:=[aw0,aw1,aw58,aw59,aw61,aw70,aw69,aw156,aw157,aw183,aw192,aw193,aw194]) follows Zac ⟨ZCB,⟨ZAZ,⟨Zxb,⟨ZxD,⟨Zyj,⟨ZwY,⟨ZkO,⟨Zs4,⟨Ztx,⟨Zth,⟨Zua,⟨Zu1,⟨ZuS,trivial⟩⟩⟩⟩⟩⟩⟩⟩⟩⟩⟩⟩⟩ (by kernel_rfl)
end Go.Proofs.Ytklbmkllepkjcaa
/- Contracts as a list. No condition. -/
namespace Go.Proofs.Ytklbmkllepkjcaa
def k12:Ctr:=⟨12,0,fun _ a=>match a with |[]=>some (true, .bool true,none) |_=>none⟩
theorem ZBV:k12.OK Try.prog:=fun pa args r fr h=>by
 simp only[k12]at h
 split at h
 ·cases h
  exact ZtW
 ·cases h
def J8:List Ctr:=[k12]++J7
theorem ZEk:Zax Try.prog J8:=⟨ZBV,ZD3⟩
end Go.Proofs.Ytklbmkllepkjcaa
/- Contracts as a list. No condition. -/
namespace Go.Proofs.Ytklbmkllepkjcaa
section
variable {C:Ctx}(hC:C.P=Try.prog)
include hC
end
theorem Ze3{x:Int}{l:List Int}(h:Zar (x::l)=0):x=0∧Zar l=0:=by
 rw[Zar]at h
 split at h
 ·exact⟨by assumption,h⟩
 ·contradiction
section
variable (m p q:Int)
def wt(s b:Int):Int:=oS m p s b+oS m q s b
def rx(s:Nat)(b:Int)(x:Int×List Int):Int×List Int:=if nxS m s b=0 then(min x.1 (x.2.getD s 0+wt m p q s b),x.2)else(x.1,x.2.set (nxS m s b).toNat (min (x.2.getD (nxS m s b).toNat 0) (x.2.getD s 0+wt m p q s b)))
end
structure OkX (m:Int) (x:Int×List Int):Prop where
 b:0≤x.1∧x.1≤100000
 l:x.2.length=stS m
 r:∀j,0≤x.2.getD j 0∧x.2.getD j 0≤100000
section
variable {C:Ctx}(hC:C.P=Try.prog)(m p q:Int)(hv:Ztw m p q=0)
include hC hv
end
def J9:List Ctr:=J8
theorem ZEx:Zax Try.prog J9:=ZEk
end Go.Proofs.Ytklbmkllepkjcaa
/- Contracts as a list. No condition. -/
namespace Go.Proofs.Ytklbmkllepkjcaa
@[simp] theorem ZGn (l:List AV):std.lenA l=l.length:=rfl
@[simp] theorem ZCP (l:List AV) (j:Nat):std.nthA l j=l.getD j .top:=rfl
def pR(ps:List AV)(t:Nat):List Int:=AV.toIs (ps.getD t .top)
section
variable (m p q:Int)(so:List Int)(ps:List AV)
end
structure OkP (m:Int) (so:List Int) (ps:List AV):Prop where
 n:ps.length=ZqN so+1
 l:∀t,t≤ZqN so→(pR ps t).length=stS m
 r:∀t j,t≤ZqN so→ -1000000≤(pR ps t).getD j 0∧(pR ps t).getD j 0≤1000000
theorem ZAk{l:List Int}{a b:Int}(h:Zbu l a b=0)(h0:a≤0∧0≤b)(j:Nat):a≤l.getD j 0∧l.getD j 0≤b:=by
 unfold Zbu at h
 split at h
 ·rename_i hall
  by_cases hk:j<l.length
  ·have:=List.all_eq_true.1 hall _ (ZbA (d:=0) hk)
   simpa[Zaq]using of_decide_eq_true this
  ·rw[List.getD_eq_getElem?_getD,List.getElem?_eq_none (by omega)];simpa using h0
 ·cases h
section
variable {C:Ctx}(hC:C.P=Try.prog)(m p q:Int)(so:List Int)(ps:List AV)(h:OkC m p q so)(hp:OkP m so ps)
include hC h hp
end
section
variable {C:Ctx}(hC:C.P=Try.prog)(m p q:Int)(so:List Int)(ps:List AV)(h:OkC m p q so)(hn:ps.length=ZqN so+1)(hrl:∀t,(pR ps t).length≤1000000)
include hC h hn hrl
end
def rlB(ps:List AV):Prop:=∀t,(pR ps t).length≤1000000
section
variable {C:Ctx}(hC:C.P=Try.prog)(m p q:Int)(so:List Int)(ps:List AV)(h:OkC m p q so)(hp:OkP m so ps)
include hC h hp
end
theorem ZmA{l:List Int}{a b:Int}(h:∀j,j<l.length→Zaq (l.getD j 0) a b=true):Zbu l a b=0:=by
 unfold Zbu
 rw[if_pos]
 refine List.all_eq_true.2 fun x hx=>?_
 obtain⟨j,hj,rfl⟩:=List.mem_iff_getElem.1 hx
 have:=h j hj
 rwa[List.getD_eq_getElem?_getD,List.getElem?_eq_getElem hj]at this
section
variable {C:Ctx}(hC:C.P=Try.prog)(m p q:Int)(so:List Int)(ps:List AV)(h:OkC m p q so)(hn:ps.length=ZqN so+1)
include hC h hn
end
section
variable {C:Ctx}(hC:C.P=Try.prog)(ps:List AV)(hl:ps.length≤1000000)(hrl:rlB ps)
include hC hl hrl
end
def Ja:List Ctr:=J9
theorem ZFn:Zax Try.prog Ja:=ZEx
end Go.Proofs.Ytklbmkllepkjcaa
/- Contracts as a list. No condition. -/
namespace Go.Proofs.Ytklbmkllepkjcaa
def k14v:Ctr:=⟨14,0,fun _ a=>match a with |[.list (.ints .i64 xs)]=>some (decide (xs.length≤1000000), .list (.ints .i64 xs),Zue) |_=>none⟩
theorem ZwM:k14v.OK Try.prog:=fun pa args r fr h=>by
 simp only[k14v]at h
 split at h
 ·simp only[Option.some.injEq,Prod.mk.injEq,decide_eq_true_eq]at h
  obtain⟨h0,rfl,rfl⟩:=h
  exact Zy0 (ZlL _ h0) rfl rfl
 ·cases h
def Jb:List Ctr:=[k14v]++Ja
theorem ZEg:Zax Try.prog Jb:=⟨ZwM,ZFn⟩
end Go.Proofs.Ytklbmkllepkjcaa
/- The field of 16 elements. No condition. -/
namespace Go.Proofs.Ytklbmkllepkjcaa
def xt(a:Nat):Nat:=if a<8 then 2*a else(2*a) ^^^ 19
def Zat(a b:Nat):Nat:=(if b%2=1 then a else 0) ^^^ (if b/2%2=1 then xt a else 0) ^^^ (if b/4%2=1 then xt (xt a)else 0) ^^^ (if b/8%2=1 then xt (xt (xt a))else 0)
def Zbp:Nat→Nat
 |0=>1
 |n+1=>Zat (Zbp n) 2
def Zg9(a:Nat):Nat:=((List.range 16).find? fun b=>Zat a b==1).getD 0
def Zss(p:Nat→Nat→Bool):Bool:=(List.range 16).all fun a=>(List.range 16).all fun b=>p a b
theorem Zdk{p:Nat→Nat→Bool}(h:Zss p=true){a b:Nat}(ha:a<16)(hb:b<16):p a b=true:=
 List.all_eq_true.1 (List.all_eq_true.1 h a (List.mem_range.2 ha)) b (List.mem_range.2 hb)
def ZFm(p:Nat→Nat→Nat→Bool):Bool:=(List.range 16).all fun a=>(List.range 16).all fun b=>(List.range 16).all fun c=>p a b c
theorem Zqe{p:Nat→Nat→Nat→Bool}(h:ZFm p=true){a b c:Nat}(ha:a<16)(hb:b<16)(hc:c<16):p a b c=true:=
 List.all_eq_true.1 (List.all_eq_true.1 (List.all_eq_true.1 h a (List.mem_range.2 ha)) b (List.mem_range.2 hb)) c (List.mem_range.2 hc)
theorem Zbt{a b:Nat}(ha:a<16)(hb:b<16):Zat a b<16:=by
 have h:Zss (fun a b=>decide (Zat a b<16))=true:=by kernel_rfl
 exact of_decide_eq_true (Zdk h ha hb)
theorem Za8{a b:Nat}(ha:a<16)(hb:b<16):Zat a b=Zat b a:=by
 have h:Zss (fun a b=>decide (Zat a b=Zat b a))=true:=by kernel_rfl
 exact of_decide_eq_true (Zdk h ha hb)
theorem ZaD{a b c:Nat}(ha:a<16)(hb:b<16)(hc:c<16):Zat (Zat a b) c=Zat a (Zat b c):=by
 have h:ZFm (fun a b c=>decide (Zat (Zat a b) c=Zat a (Zat b c)))=true:=by kernel_rfl
 exact of_decide_eq_true (Zqe h ha hb hc)
theorem ZcH{a b c:Nat}(ha:a<16)(hb:b<16)(hc:c<16):Zat (a ^^^ b) c=Zat a c ^^^ Zat b c:=by
 have h:ZFm (fun a b c=>decide (Zat (a ^^^ b) c=Zat a c ^^^ Zat b c))=true:=by kernel_rfl
 exact of_decide_eq_true (Zqe h ha hb hc)
theorem Zb2{a:Nat}(ha:a<16):Zat a 0=0:=by
 have h:Zss (fun a _=>decide (Zat a 0=0))=true:=by kernel_rfl
 exact of_decide_eq_true (Zdk h ha (b:=0) (by omega))
theorem ZgK{a:Nat}(ha:a<16):Zat a 1=a:=by
 have h:Zss (fun a _=>decide (Zat a 1=a))=true:=by kernel_rfl
 exact of_decide_eq_true (Zdk h ha (b:=0) (by omega))
theorem ZbJ{a b:Nat}(ha:a<16)(hb:b<16)(h0:Zat a b=0):a=0∨b=0:=by
 have h:Zss (fun a b=>decide (Zat a b=0→a=0∨b=0))=true:=by kernel_rfl
 exact of_decide_eq_true (Zdk h ha hb) h0
theorem ZsK{a:Nat}(ha:a<16)(h0:a≠0):Zg9 a<16∧Zat a (Zg9 a)=1:=by
 have h:Zss (fun a _=>decide (a≠0→Zg9 a<16∧Zat a (Zg9 a)=1))=true:=by kernel_rfl
 exact of_decide_eq_true (Zdk h ha (b:=0) (by omega)) h0
theorem ZbW{a b:Nat}(ha:a<16)(hb:b<16):a ^^^ b<16:=Nat.xor_lt_two_pow (n:=4) ha hb
theorem ZbU:∀n,Zbp n<16
 |0=>by decide
 |n+1=>Zbt (ZbU n) (by decide)
theorem ZEo:Zbp 15=1:=by decide
theorem Zp1:∀m n,Zbp (m+n)=Zat (Zbp m) (Zbp n)
 |m,0=>(ZgK (ZbU m)).symm
 |m,n+1=>by rw[←Nat.add_assoc,Zbp,Zp1 m n,Zbp,ZaD (ZbU m) (ZbU n) (by decide)]
theorem Zvi(n:Nat):Zbp n=Zbp (n%15):=by
 have h:∀q r,Zbp (15*q+r)=Zbp r:=by
  intro q
  induction q with
  |zero=>intro r;rw[Nat.mul_zero,Nat.zero_add]
  |succ q ih=>
   intro r
   rw[show 15*(q+1)+r=15*q+(15+r) by omega,ih,Zp1,ZEo,Za8 (by decide) (ZbU r),ZgK (ZbU r)]
 conv=>lhs;rw[←Nat.div_add_mod n 15]
 exact h _ _
theorem Zpl(n:Nat):Zbp n≠0:=by
 have h:∀r,r<15→Zbp r≠0:=by decide
 rw[Zvi];exact h _ (Nat.mod_lt _ (by decide))
theorem ZoB{i j:Nat}(hi:i<15)(hj:j<15)(h:Zbp i=Zbp j):i=j:=by
 have k:∀i,i<15→∀j,j<15→Zbp i=Zbp j→i=j:=by decide
 exact k i hi j hj h
def gM(a b:Int):Int:=((Zat a.toNat b.toNat:Nat):Int)
def gI(a:Int):Int:=((Zg9 a.toNat:Nat):Int)
def elB(a:Int):Bool:=decide (0≤a∧a≤15)
end Go.Proofs.Ytklbmkllepkjcaa
/- Contracts as a list. No condition. -/
namespace Go.Proofs.Ytklbmkllepkjcaa
theorem ZkE(m:Nat)(hm:m<2^32):(BitVec.ofInt 64 (m:Int)).toNat=m:=by
 rw[BitVec.ofInt_natCast,BitVec.toNat_ofNat];exact Nat.mod_eq_of_lt (by omega)
theorem Zc1{r k:Nat}(hr:r<2^32)(hk:k<2^32):std.bits .xor .i64 (r:Int) (k:Int)=((r ^^^ k:Nat):Int):=by
 show IntKind.i64.wrap ((BitVec.ofInt 64 (r:Int) ^^^ BitVec.ofInt 64 (k:Int)).toNat:Int)=_
 rw[BitVec.toNat_xor,ZkE r hr,ZkE k hk]
 have:r ^^^ k<2^32:=Nat.xor_lt_two_pow hr hk
 rw[IntKind.wrap_i64]
 omega
theorem ZqJ{r:Nat}(hr:r<2^32):std.bits .and .i64 (r:Int) 1=((r%2:Nat):Int):=by
 show IntKind.i64.wrap ((BitVec.ofInt 64 (r:Int) &&& BitVec.ofInt 64 ((1:Nat):Int)).toNat:Int)=_
 rw[BitVec.toNat_and,ZkE r hr,ZkE 1 (by omega),Nat.and_one_is_mod,IntKind.wrap_i64]
 omega
def ZxC:Nat→Nat→Nat→Nat→Nat
 |0,_,_,o=>o
 |k+1,a,b,o=>if b=0 then o else ZxC k (xt a) (b/2) (if b%2=1 then o ^^^ a else o)
theorem ZyK{a b:Nat}(ha:a<16)(hb:b<16):ZxC 4 a b 0=Zat a b:=by
 have h:Zss (fun a b=>decide (ZxC 4 a b 0=Zat a b))=true:=by kernel_rfl
 exact of_decide_eq_true (Zdk h ha hb)
theorem ZDT{a:Nat}(ha:a<16):xt a<16:=by
 have h:Zss (fun a _=>decide (xt a<16))=true:=by kernel_rfl
 exact of_decide_eq_true (Zdk h ha (b:=0) (by omega))
section
variable {C:Ctx}(hC:C.P=Try.prog)
include hC
theorem L71:∀(k a b o:Nat),a<16→b<2^k→k≤4→o<16→Ev C (Zh9 a b o) (Zf1 a b o) (ZaZ 71 (.int .i64 ((ZxC k a b o:Nat):Int)) none):=by
 intro k
 induction k with
 |zero=>
  intro a b o ha hb _ ho
  have:b=0:=by omega
  subst this
  refine tgo hC ZdQ ZjO ?_
  simp[Zd9,ZxC]
 |succ k ih=>
  intro a b o ha hb hk ho
  refine tgo hC ZdQ ZjO ?_
  by_cases h0:b=0
  ·subst h0;simp[Zd9,ZxC]
  ·have hb16:b<16:=by have:=Nat.pow_le_pow_right (show 0<2 by omega) hk;omega
   have hb2:b/2<2^k:=by rw[Nat.pow_succ]at hb;omega
   have e1:=ZqJ (r:=b) (by omega)
   have e2:=Zc1 (r:=o) (k:=a) (by omega) (by omega)
   have e3:=Zc1 (r:=2*a) (k:=19) (by omega) (by omega)
   have e4:(b:Int).fdiv 2=((b/2:Nat):Int):=by rw[Int.fdiv_eq_ediv_of_nonneg _ (by omega)];rfl
   have e5:(a:Int)*2=((2*a:Nat):Int):=by omega
   have hx:=ZDT ha
   have ho2:(if b%2=1 then o ^^^ a else o)<16:=by split;exact ZbW ho ha;exact ho
   have i:=ih (xt a) (b/2) (if b%2=1 then o ^^^ a else o) hx hb2 (by omega) ho2
   rw[ZxC,if_neg h0]
   have hp:(0:Int)<(b:Int):=by omega
   have e6:((19:Nat):Int)=19:=rfl
   rw[e6]at e3
   unfold xt at i⊢
   have e7:∀x:Nat,(((x:Nat):Int)=1)=(x=1):=fun x=>by simp;omega
   have e8:((16:Int)≤((2*a:Nat):Int))=¬(a<8):=by simp;omega
   simp only[Zd9,ZFX,ZGO,ZHu,Zbj,ZFi,ZFp,e1,e2,Int.toNat_one,Int.pow_one,e4,e5,e3,e7,e8,ZAO,ZBf,decide_eq_true hp,if_true]
   have hA:AllT [Zae (Zae (decide ((0:Int)≤1)) (Nat.blt 1 64)) (std.inR .i64 ((2*a:Nat):Int))]:=by simp;omega
   have hB:AllT [Zae (decide ((0:Int)≤1)) (Nat.blt 1 64)]:=by simp
   by_cases h1:b%2=1<;>by_cases h2:a<8<;>simp only[h1,h2,decide_true,decide_false,not_true,not_false,if_true,if_false,Bool.false_eq_true]at i⊢
   all_goals first |exact⟨hA,hB,i⟩ |(refine ⟨hA,?_⟩;rw[if_pos (by simp)];exact⟨hB,i⟩)
end
section
variable {C:Ctx}(hC:C.P=Try.prog)
include hC
end
theorem ZkI{a:Int}(h:elB a=true):∃n:Nat,a=n∧n<16:=by
 have:=of_decide_eq_true h
 exact⟨a.toNat,by omega,by omega⟩
theorem Zrw(a b:Int)(ha:elB a=true)(hb:elB b=true):Zah Try.prog 71 [.int .i64 a, .int .i64 b] (.int .i64 (gM a b)) none:=by
 obtain⟨m,rfl,hm⟩:=ZkI ha
 obtain⟨n,rfl,hn⟩:=ZkI hb
 refine start (Zw3 m n) fun C hC=>tgo hC ZdQ ZDx ?_
 have i:=L71 hC 4 m n 0 hm (by omega) (by omega) (by omega)
 rw[ZyK hm hn]at i
 simp[ZAq,gM]at i⊢
 exact i
def k71:Ctr:=⟨71,0,fun _ a=>match a with |[.int .i64 a, .int .i64 b]=>some (decide (elB a=true∧elB b=true), .int .i64 (gM a b),none) |_=>none⟩
theorem Zzm:k71.OK Try.prog:=fun pa args r fr h=>by
 simp only[k71]at h
 split at h
 ·simp only[Option.some.injEq,Prod.mk.injEq,decide_eq_true_eq]at h
  obtain⟨h0,rfl,rfl⟩:=h
  exact Zrw _ _ h0.1 h0.2
 ·cases h
def Ka:List Ctr:=[k71]++Jb
theorem Zmv:Zax Try.prog Ka:=⟨Zzm,ZEg⟩
end Go.Proofs.Ytklbmkllepkjcaa
/- Paths of functions, printed by the explorer (Gx). No condition. -/
namespace Go.Proofs.Ytklbmkllepkjcaa
set_option maxRecDepth 100000
set_option linter.unusedVariables false
def Zv3(n:Int):AFrame:={ fn:=117,N:=12,env:=[(0,AV.int .i64 n)],todo:=[.code a117.code],defs:=[],rnd:=none,ret:=false,res:=[ARes.tmp 2] }
def ZDy(n:Int):List AFrame:=[(Zv3 n)]
theorem Zto(n:Int):Zay tab 117 [AV.int .i64 n]=some (Zv3 n):=rfl
def Zeu(n0 n1 n2:Int):List AFrame:=[{ fn:=117,N:=12,env:=[(3,AV.int .i64 n1),(5,AV.int .i64 n0),(6,AV.int .i64 n2)],todo:=.code (ACode.gh [] Zwl)::Zzj,defs:=[],rnd:=none,ret:=false,res:=[ARes.tmp 2] }]
def Zdw(n0 n1 n2:Int):Zaa:=[]
abbrev ZgV(n0 n1 n2:Int):List AFrame×Zaa:=(Zeu n0 n1 n2,Zdw n0 n1 n2)
def ZvV(A:Ar)(K:KT)(F:FT)(n:Int):Prop:=rB [A.not (A.eq 15 0)] (K (ZgV (A.rem n 15) (1) (0)))
theorem ZBJ{A:Ar}{K:KT}{F:FT}{M:MT}{n:Int} :Zao A tab Ka 117 K F M (.run 18 (.hd)) (ZDy n) []=ZvV A K F n:=by kernel_rfl
def ZdH(A:Ar)(K:KT)(F:FT)(n0 n1 n2:Int):Prop:=bB (A.lt n2 n0) (rB [A.inR .i64 (A.add n2 1),decide (elB n1=true∧elB 2=true)] (K (ZgV (n0) (gM n1 2) (A.add n2 1)))) (F (AV.int .i64 n1) (none))
theorem Zgv{A:Ar}{K:KT}{F:FT}{M:MT}{n0 n1 n2:Int} :Zao A tab Ka 117 K F M (.run 6 (.tf (.run 15 (.hd)) (.run 7 (.fn)))) (Zeu n0 n1 n2) (Zdw n0 n1 n2)=ZdH A K F n0 n1 n2:=by kernel_rfl
def Zwr(n:Int):AFrame:={ fn:=128,N:=13,env:=[(0,AV.int .i64 n)],todo:=[.code a128.code],defs:=[],rnd:=none,ret:=false,res:=[ARes.tmp 2] }
def ZDQ(n:Int):List AFrame:=[(Zwr n)]
theorem Ztr(n:Int):Zay tab 128 [AV.int .i64 n]=some (Zwr n):=rfl
def Zev(n n0:Int):List AFrame:=[{ fn:=128,N:=13,env:=[(0,AV.int .i64 n),(3,AV.int .i64 n0)],todo:=.code (ACode.gh [] ZvA)::ZB0,defs:=[],rnd:=none,ret:=false,res:=[ARes.tmp 2] }]
def ZdB(n n0:Int):Zaa:=[]
abbrev Zgx(n n0:Int):List AFrame×Zaa:=(Zev n n0,ZdB n n0)
def Zwo(A:Ar)(K:KT)(F:FT)(n:Int):Prop:=K (Zgx (n) (1))
theorem ZAa{A:Ar}{K:KT}{F:FT}{M:MT}{n:Int} :Zao A tab Ka 128 K F M (.run 12 (.hd)) (ZDQ n) []=Zwo A K F n:=by kernel_rfl
def Zcq(A:Ar)(K:KT)(F:FT)(n n0:Int):Prop:=bB (A.lt n0 16) (rB [decide (elB n=true∧elB n0=true)] (bB (A.eq (gM n n0) 1) (F (AV.int .i64 n0) (none)) (rB [A.inR .i64 (A.add n0 1)] (K (Zgx (n) (A.add n0 1)))))) (F (AV.int .i64 0) (none))
theorem Zgz{A:Ar}{K:KT}{F:FT}{M:MT}{n n0:Int} :Zao A tab Ka 128 K F M (.run 7 (.tf (.run 10 (.tf (.run 6 (.fn)) (.run 9 (.hd)))) (.run 6 (.fn)))) (Zev n n0) (ZdB n n0)=Zcq A K F n n0:=by kernel_rfl
end Go.Proofs.Ytklbmkllepkjcaa
/- Contracts as a list. No condition. -/
namespace Go.Proofs.Ytklbmkllepkjcaa
def gP(n:Int):Int:=((Zbp n.toNat:Nat):Int)
theorem Zbi{n:Nat}(h:n<16):elB n=true:=decide_eq_true (by omega)
theorem Zv9(a b:Nat):gM a b=((Zat a b:Nat):Int):=rfl
theorem ZBq(n:Nat):gM ((Zbp n:Nat):Int) 2=((Zbp (n+1):Nat):Int):=rfl
theorem Zwt{a b:Nat}(ha:a<16)(hb:b<16)(h1:Zat a b=1):Zg9 a=b:=by
 have h:Zss (fun a b=>decide (Zat a b=1→Zg9 a=b))=true:=by kernel_rfl
 exact of_decide_eq_true (Zdk h ha hb) h1
theorem Zxu{a:Nat}(ha:a<16)(h:∀j,j<16→Zat a j≠1):Zg9 a=0:=by
 by_cases h0:a=0
 ·subst h0;rfl
 ·obtain⟨h1,h2⟩:=ZsK ha h0
  exact absurd h2 (h _ h1)
section
variable {C:Ctx}(hC:C.P=Try.prog)
include hC
theorem ZHc(n:Nat)(hn:n≤1000):∀(k j:Nat),j+k=n→Ev C (Zeu n ((Zbp j:Nat):Int) j) (Zdw n ((Zbp j:Nat):Int) j) (ZaZ 117 (.int .i64 ((Zbp n:Nat):Int)) none):=by
 intro k
 induction k with
 |zero=>
  intro j hj
  refine tgo hC Zmv Zgv ?_
  rw[show j=n by omega]
  simp[ZdH]
 |succ k ih=>
  intro j hj
  refine tgo hC Zmv Zgv ?_
  have i:=ih (j+1) (by omega)
  have e1:=Zbi (ZbU j)
  have e2:elB 2=true:=rfl
  rw[←ZBq]at i
  simp[ZdH,show(j:Int)<n by omega,e1,e2]at i⊢
  exact⟨by omega,i⟩
theorem ZHf(a:Nat)(ha:a<16):∀(k b:Nat),b+k=16→(∀j,j<b→Zat a j≠1)→Ev C (Zev a b) (ZdB a b) (ZaZ 128 (.int .i64 ((Zg9 a:Nat):Int)) none):=by
 intro k
 induction k with
 |zero=>
  intro b hb hj
  refine tgo hC Zmv Zgz ?_
  have e:b=16:=by omega
  rw[Zxu ha (fun j h=>hj j (by omega))]
  subst e
  simp[Zcq]
 |succ k ih=>
  intro b hb hj
  refine tgo hC Zmv Zgz ?_
  have e1:=Zbi ha
  have e2:=Zbi (n:=b) (by omega)
  by_cases h1:Zat a b=1
  ·rw[Zwt ha (by omega) h1]
   simp[Zcq,e1,e2,Zv9,h1,show(b:Int)<16 by omega]
  ·have i:=ih (b+1) (by omega) (fun j h=>by
    by_cases hjb:j=b
    ·subst hjb;exact h1
    ·exact hj j (by omega))
   have h1':¬((Zat a b:Nat):Int)=1:=by omega
   simp[Zcq,e1,e2,Zv9,h1',show(b:Int)<16 by omega]at i⊢
   exact⟨by omega,i⟩
end
theorem ZrA(n:Int)(h:0≤n):Zah Try.prog 117 [.int .i64 n] (.int .i64 (gP n)) none:=by
 obtain⟨m,rfl⟩:=Int.eq_ofNat_of_zero_le h
 refine start (Zto m) fun C hC=>tgo hC Zmv ZBJ ?_
 have i:=ZHc hC (m%15) (by omega) (m%15) 0 (by omega)
 have e:((m:Nat):Int).tmod 15=((m%15:Nat):Int):=rfl
 have e2:gP m=((Zbp (m%15):Nat):Int):=by unfold gP;rw[Int.toNat_natCast,Zvi]
 rw[e2]
 simp only[ZvV,ZEH,e]
 simp[Zbp]at i⊢
 exact i
theorem Zrt(a:Int)(h:elB a=true):Zah Try.prog 128 [.int .i64 a] (.int .i64 (gI a)) none:=by
 obtain⟨m,rfl,hm⟩:=ZkI h
 refine start (Ztr m) fun C hC=>tgo hC Zmv ZAa ?_
 have i:=ZHf hC m hm 15 1 (by omega) (fun j hj=>by rw[show j=0 by omega,Zb2 hm];decide)
 simp[Zwo,gI]at i⊢
 exact i
def k117:Ctr:=⟨117,0,fun _ a=>match a with |[.int .i64 n]=>some (decide (0≤n), .int .i64 (gP n),none) |_=>none⟩
theorem Zx7:k117.OK Try.prog:=fun pa args r fr h=>by
 simp only[k117]at h
 split at h
 ·simp only[Option.some.injEq,Prod.mk.injEq,decide_eq_true_eq]at h
  obtain⟨h0,rfl,rfl⟩:=h
  exact ZrA _ h0
 ·cases h
def k128:Ctr:=⟨128,0,fun _ a=>match a with |[.int .i64 a]=>some (decide (elB a=true), .int .i64 (gI a),none) |_=>none⟩
theorem Zxk:k128.OK Try.prog:=fun pa args r fr h=>by
 simp only[k128]at h
 split at h
 ·simp only[Option.some.injEq,Prod.mk.injEq,decide_eq_true_eq]at h
  obtain⟨h0,rfl,rfl⟩:=h
  exact Zrt _ h0
 ·cases h
def Kb:List Ctr:=[k117,k128]++Ka
theorem Zj4:Zax Try.prog Kb:=⟨Zx7,⟨Zxk,Zmv⟩⟩
end Go.Proofs.Ytklbmkllepkjcaa
/- Paths of functions, printed by the explorer (Gx). No condition. -/
namespace Go.Proofs.Ytklbmkllepkjcaa
set_option maxRecDepth 100000
set_option linter.unusedVariables false
def ZvQ(n:Int):AFrame:={ fn:=129,N:=6,env:=[(0,AV.int .i64 n)],todo:=[.code a129.code],defs:=[],rnd:=none,ret:=false,res:=[ARes.tmp 2] }
def ZFC(n:Int):List AFrame:=[(ZvQ n)]
theorem Zs0(n:Int):Zay tab 129 [AV.int .i64 n]=some (ZvQ n):=rfl
def Zvh(A:Ar)(K:KT)(F:FT)(n:Int):Prop:=rB [decide (0≤A.sub 14 n),A.inR .i64 (A.sub 14 n)] (F (AV.int .i64 (gP (A.sub 14 n))) (none))
theorem ZCE{A:Ar}{K:KT}{F:FT}{M:MT}{n:Int} :Zao A tab Kb 129 K F M (.run 12 (.fn)) (ZFC n) []=Zvh A K F n:=by kernel_rfl
def ZAh(n:Int):AFrame:={ fn:=73,N:=6,env:=[(0,AV.int .i64 n)],todo:=[.code a73.code],defs:=[],rnd:=none,ret:=false,res:=[ARes.tmp 2] }
def ZHb(n:Int):List AFrame:=[(ZAh n)]
theorem Zyx(n:Int):Zay tab 73 [AV.int .i64 n]=some (ZAh n):=rfl
def ZAY(A:Ar)(K:KT)(F:FT)(n:Int):Prop:=F (AV.int .i64 (Zaj (Zaq n 1 3) 2)) (none)
theorem ZE0{A:Ar}{K:KT}{F:FT}{M:MT}{n:Int} :Zao A tab Kb 73 K F M (.run 12 (.fn)) (ZHb n) []=ZAY A K F n:=by kernel_rfl
def ZzS(xs:List Int)(n:Int):AFrame:={ fn:=74,N:=14,env:=[(0,AV.list (.ints .i64 xs)),(1,AV.int .i64 n)],todo:=[.code a74.code],defs:=[],rnd:=none,ret:=false,res:=[ARes.tmp 4] }
def ZIe(xs:List Int)(n:Int):List AFrame:=[(ZzS xs n)]
theorem ZyS(xs:List Int)(n:Int):Zay tab 74 [AV.list (.ints .i64 xs),AV.int .i64 n]=some (ZzS xs n):=rfl
def ZBS(A:Ar)(K:KT)(F:FT)(xs:List Int)(n:Int):Prop:=rB [decide (List.length [Zaj (A.eq (A.int (A.len xs)) n) 10,Zbu xs 0 15]≤1000000),List.all [AV.int .i64 (Zaj (A.eq (A.int (A.len xs)) n) 10),AV.int .i64 (Zbu xs 0 15)] fun x=>AV.bx x&&Nat.beq (Zaf A x) 1,decide (List.length xs≤1000000)] (F (AV.int .i64 (Zar [Zaj (A.eq (A.int (A.len xs)) n) 10,Zbu xs 0 15])) (none))
theorem ZE1{A:Ar}{K:KT}{F:FT}{M:MT}{xs:List Int}{n:Int} :Zao A tab Kb 74 K F M (.run 19 (.fn)) (ZIe xs n) []=ZBS A K F xs n:=by kernel_rfl
def ZCY(n:Int):AFrame:={ fn:=21,N:=5,env:=[(0,AV.int .i64 n)],todo:=[.code a21.code],defs:=[],rnd:=none,ret:=false,res:=[ARes.tmp 2] }
def ZG9(n:Int):List AFrame:=[(ZCY n)]
theorem Zy4(n:Int):Zay tab 21 [AV.int .i64 n]=some (ZCY n):=rfl
def ZAr(A:Ar)(K:KT)(F:FT)(n:Int):Prop:=F (AV.bool (Zaq n 0 15)) (none)
theorem ZEq{A:Ar}{K:KT}{F:FT}{M:MT}{n:Int} :Zao A tab Kb 21 K F M (.run 11 (.fn)) (ZG9 n) []=ZAr A K F n:=by kernel_rfl
def ZBN(n:Int):AFrame:={ fn:=23,N:=6,env:=[(0,AV.int .i64 n)],todo:=[.code a23.code],defs:=[],rnd:=none,ret:=false,res:=[ARes.tmp 2] }
def ZGN(n:Int):List AFrame:=[(ZBN n)]
theorem ZwX(n:Int):Zay tab 23 [AV.int .i64 n]=some (ZBN n):=rfl
def ZBg(A:Ar)(K:KT)(F:FT)(n:Int):Prop:=bB (A.not (Zaq n 1 3)) (F (AV.int .i64 2) (none)) (F (AV.int .i64 0) (none))
theorem ZEU{A:Ar}{K:KT}{F:FT}{M:MT}{n:Int} :Zao A tab Kb 23 K F M (.run 11 (.tf (.run 5 (.fn)) (.run 6 (.fn)))) (ZGN n) []=ZBg A K F n:=by kernel_rfl
def Zwa(w:List Int)(j:Int):AFrame:={ fn:=112,N:=24,env:=[(0,AV.agg (.ints .i64 w)),(1,AV.int .i64 j)],todo:=[.code a112.code],defs:=[],rnd:=none,ret:=false,res:=[ARes.tmp 4] }
def ZEl(w:List Int)(j:Int):List AFrame:=[(Zwa w j)]
theorem ZsM(w:List Int)(j:Int):Zay tab 112 [AV.agg (.ints .i64 w),AV.int .i64 j]=some (Zwa w j):=rfl
def ZeC(j:Int)(l0:List Int)(n1 n2:Int):List AFrame:=[{ fn:=112,N:=24,env:=[(1,AV.int .i64 j),(5,AV.int .i64 n1),(8,AV.agg (.ints .i64 l0)),(9,AV.int .i64 n2)],todo:=.code (ACode.gh [] Zu8)::ZBE,defs:=[],rnd:=none,ret:=false,res:=[ARes.tmp 4] }]
def ZdX(j:Int)(l0:List Int)(n1 n2:Int):Zaa:=[]
abbrev ZgB(j:Int)(l0:List Int)(n1 n2:Int):List AFrame×Zaa:=(ZeC j l0 n1 n2,ZdX j l0 n1 n2)
def ZvL(A:Ar)(K:KT)(F:FT)(w:List Int)(j:Int):Prop:=rB [Nat.ble 15 (A.len w),Nat.blt 0 (A.len w)] (K (ZgB (j) (A.sub3 w 0 15) (0) (0)))
theorem Zzw{A:Ar}{K:KT}{F:FT}{M:MT}{w:List Int}{j:Int} :Zao A tab Kb 112 K F M (.run 18 (.hd)) (ZEl w j) []=ZvL A K F w j:=by kernel_rfl
def Zdy(A:Ar)(K:KT)(F:FT)(j:Int)(l0:List Int)(n1 n2:Int):Prop:=bB (A.lt n2 15) (rB [A.inR .i64 (A.add n2 1),decide (elB (A.nth l0 (A.nat n2))=true∧elB (gP (A.mul j (A.sub 14 n2)))=true),decide (0≤A.mul j (A.sub 14 n2)),A.inR .i64 (A.mul j (A.sub 14 n2)),A.inR .i64 (A.sub 14 n2),Zae (Zae (A.le 0 n2) (A.lt n2 (A.int 15))) (Nat.blt (A.nat n2) (A.len l0))] (K (ZgB (j) (l0) (A.bits Go.BinOp.xor .i64 n1 (gM (A.nth l0 (A.nat n2)) (gP (A.mul j (A.sub 14 n2))))) (A.add n2 1)))) (F (AV.int .i64 n1) (none))
theorem ZgW{A:Ar}{K:KT}{F:FT}{M:MT}{j:Int}{l0:List Int}{n1 n2:Int} :Zao A tab Kb 112 K F M (.run 6 (.tf (.run 29 (.hd)) (.run 7 (.fn)))) (ZeC j l0 n1 n2) (ZdX j l0 n1 n2)=Zdy A K F j l0 n1 n2:=by kernel_rfl
end Go.Proofs.Ytklbmkllepkjcaa
/- Contracts as a list. No condition. -/
namespace Go.Proofs.Ytklbmkllepkjcaa
def ZpO(j:Nat):Nat→List Nat→Nat
 |_,[]=>0
 |i,a::l=>Zat a (Zbp (j*(14-i))) ^^^ ZpO j (i+1) l
def wdN(w:List Int):List Nat:=w.map Int.toNat
def syI(w:List Int)(j:Nat):Int:=((ZpO j 0 (wdN w):Nat):Int)
def okw(w:List Int):Bool:=decide (w.length=15)&&decide (Zbu w 0 15=0)
theorem okw_iff{w:List Int} :okw w=true↔w.length=15∧Zbu w 0 15=0:=by
 unfold okw;rw[Bool.and_eq_true,decide_eq_true_eq,decide_eq_true_eq]
theorem ZiH{w:List Int}(h:Zbu w 0 15=0)(i:Nat):elB (w.getD i 0)=true:=decide_eq_true (by have:=ZAk h (by omega) i;omega)
theorem ZBm{w:List Int}(h:Zbu w 0 15=0):∀x∈wdN w,x<16:=fun x hx=>by
 obtain⟨y,hy,rfl⟩:=List.mem_map.1 hx
 unfold Zbu at h
 split at h
 ·rename_i hall
  have:=of_decide_eq_true (List.all_eq_true.1 hall y hy)
  omega
 ·cases h
theorem Zr3(w:List Int):(wdN w).length=w.length:=by simp[wdN]
theorem Zqr{w:List Int}{i:Nat}(h:i<w.length):(wdN w).drop i=(w.getD i 0).toNat::(wdN w).drop (i+1):=by
 rw[List.drop_eq_getElem_cons (by rw[Zr3];exact h)]
 unfold wdN
 rw[List.getElem_map,List.getD_eq_getElem?_getD,List.getElem?_eq_getElem h];rfl
theorem Zqh(j:Nat):∀(l:List Nat) (i:Nat),(∀x∈l,x<16)→ZpO j i l<16
 |[],_,_=>by simp[ZpO]
 |a::l,i,h=>ZbW (Zbt (h a List.mem_cons_self) (ZbU _)) (Zqh j l (i+1) fun x hx=>h x (List.mem_cons_of_mem _ hx))
theorem ZEM(n:Int):elB (gP n)=true:=Zbi (ZbU _)
theorem ZBt{w:List Int}(h:Zbu w 0 15=0)(j:Nat):elB (syI w j)=true:=Zbi (Zqh j _ 0 (ZBm h))
def Zy2(n:Int):Int:=gP (14-n)
theorem Zr9(n:Int)(h:0≤n∧n≤14):Zah Try.prog 129 [.int .i64 n] (.int .i64 (Zy2 n)) none:=
 start (Zs0 n) fun C hC=>tgo hC Zj4 ZCE (by simp[Zvh,Zy2];omega)
def hfE(h:Int):Int:=Zaj (Zaq h 1 3) 2
theorem ZpW(h:Int):Zah Try.prog 73 [.int .i64 h] (.int .i64 (hfE h)) none:=
 start (Zyx h) fun C hC=>tgo hC Zj4 ZE0 (by simp[ZAY,hfE])
theorem Zp8(h:Int):Zah Try.prog 23 [.int .i64 h] (.int .i64 (hfE h)) none:=
 start (ZwX h) fun C hC=>tgo hC Zj4 ZEU (by cases e:Zaq h 1 3<;>simp[ZBg,hfE,Zaj,e])
def elE(l:List Int)(n:Int):Int:=Zar [Zaj (decide ((l.length:Int)=n)) 10,Zbu l 0 15]
theorem Zs3(l:List Int)(n:Int)(hl:l.length≤1000000):Zah Try.prog 74 [.list (.ints .i64 l), .int .i64 n] (.int .i64 (elE l n)) none:=
 start (ZyS l n) fun C hC=>tgo hC Zj4 ZE1 (by simp[ZBS,elE,hl,AV.bx,Zaf])
theorem ZuB(n:Int):Zah Try.prog 21 [.int .i64 n] (.bool (Zaq n 0 15)) none:=
 start (Zy4 n) fun C hC=>tgo hC Zj4 ZEq (by simp[ZAr])
def syL(w:List Int)(n:Nat):List Int:=(List.range n).map fun i=>syI w (i+1)
theorem ZeA(w:List Int)(n:Nat):(syL w n).length=n:=by simp[syL]
theorem Zoa(w:List Int)(n:Nat):syL w (n+1)=syL w n++[syI w (n+1)]:=by unfold syL;rw[List.range_succ,List.map_append];rfl
section
variable {C:Ctx}(hC:C.P=Try.prog){w:List Int}(hw:w.length=15)(hr:Zbu w 0 15=0)
include hC hw hr
theorem ZHd(j:Nat)(hj:j≤1000):∀(k i x:Nat),i+k=15→x<16→Ev C (ZeC j w x i) (ZdX j w x i) (ZaZ 112 (.int .i64 ((x ^^^ ZpO j i ((wdN w).drop i):Nat):Int)) none):=by
 intro k
 induction k with
 |zero=>
  intro i x hi hx
  refine tgo hC Zj4 ZgW ?_
  rw[List.drop_of_length_le (by rw[Zr3];omega),ZpO,Nat.xor_zero]
  have h15:i=15:=by omega
  subst h15
  simp[Zdy]
 |succ k ih=>
  intro i x hi hx
  refine tgo hC Zj4 ZgW ?_
  have e0:=ZiH hr i
  obtain⟨a,ha,ha16⟩:=ZkI e0
  have m0:(j:Int)*(14-(i:Int))=((j*(14-i):Nat):Int):=by rw[Int.natCast_mul];congr 1;omega
  have m1:j*(14-i)≤14000:=by
   have:=Nat.mul_le_mul hj (show 14-i≤14 by omega);omega
  have b1:0≤(j:Int)*(14-(i:Int))∧(j:Int)*(14-(i:Int))≤14000:=by rw[m0];omega
  have e1:gM (w.getD i 0) (gP ((j:Int)*(14-(i:Int))))=((Zat a (Zbp (j*(14-i))):Nat):Int):=by rw[m0,ha];rfl
  have l1:=Zbt ha16 (ZbU (j*(14-i)))
  have e2:=Zc1 (r:=x) (k:=Zat a (Zbp (j*(14-i)))) (by omega) (by omega)
  have i':=ih (i+1) (x ^^^ Zat a (Zbp (j*(14-i)))) (by omega) (ZbW hx l1)
  rw[Zqr (by omega),ZpO,ha,Int.toNat_natCast,←Nat.xor_assoc]
  have e3:=ZEM ((j:Int)*(14-(i:Int)))
  have hi15:(i:Int)<15:=by omega
  have hi2:i<15:=by omega
  simp only[Zdy,Zzs,ZtS,ZbP,Zbj,Int.toNat_natCast,e1,e2,e3,e0]
  simp[hi15,hi2,hw]at i'⊢
  refine⟨?_,i'⟩
  exact⟨by omega,decide_eq_true b1.1,by omega,by omega⟩
end
def hfB(h:Int):Bool:=decide (1≤h∧h≤3)
theorem Zsk(w:List Int)(j:Int)(hw:okw w=true)(hj:0≤j∧j≤1000):Zah Try.prog 112 [.agg (.ints .i64 w), .int .i64 j] (.int .i64 (syI w j.toNat)) none:=by
 obtain⟨w1,w2⟩:=okw_iff.1 hw
 obtain⟨n,rfl⟩:=Int.eq_ofNat_of_zero_le hj.1
 refine start (ZsM w n) fun C hC=>tgo hC Zj4 Zzw ?_
 have i:=ZHd hC w1 w2 n (by omega) 15 0 0 (by omega) (by omega)
 have e:std.sub3 w 0 15=w:=by show(w.drop 0).take 15=w;rw[List.drop_zero,List.take_of_length_le (by omega)]
 rw[List.drop_zero,Nat.zero_xor]at i
 simp only[ZvL,e]
 simp[w1,syI]at i⊢
 exact i
def k129:Ctr:=⟨129,0,fun _ a=>match a with |[.int .i64 n]=>some (decide (0≤n∧n≤14), .int .i64 (Zy2 n),none) |_=>none⟩
theorem ZxU:k129.OK Try.prog:=fun pa args r fr h=>by
 simp only[k129]at h
 split at h
 ·simp only[Option.some.injEq,Prod.mk.injEq,decide_eq_true_eq]at h
  obtain⟨h0,rfl,rfl⟩:=h
  exact Zr9 _ h0
 ·cases h
def k73:Ctr:=⟨73,0,fun _ a=>match a with |[.int .i64 h]=>some (true, .int .i64 (hfE h),none) |_=>none⟩
theorem ZBT:k73.OK Try.prog:=fun pa args r fr h=>by
 simp only[k73]at h
 split at h
 ·cases h
  exact ZpW _
 ·cases h
def k23:Ctr:=⟨23,0,fun _ a=>match a with |[.int .i64 h]=>some (true, .int .i64 (hfE h),none) |_=>none⟩
theorem ZA9:k23.OK Try.prog:=fun pa args r fr h=>by
 simp only[k23]at h
 split at h
 ·cases h
  exact Zp8 _
 ·cases h
def k74:Ctr:=⟨74,0,fun _ a=>match a with |[.list (.ints .i64 l), .int .i64 n]=>some (decide (l.length≤1000000), .int .i64 (elE l n),none) |_=>none⟩
theorem Zzz:k74.OK Try.prog:=fun pa args r fr h=>by
 simp only[k74]at h
 split at h
 ·simp only[Option.some.injEq,Prod.mk.injEq,decide_eq_true_eq]at h
  obtain⟨h0,rfl,rfl⟩:=h
  exact Zs3 _ _ h0
 ·cases h
def k21:Ctr:=⟨21,0,fun _ a=>match a with |[.int .i64 n]=>some (true, .bool (Zaq n 0 15),none) |_=>none⟩
theorem ZC9:k21.OK Try.prog:=fun pa args r fr h=>by
 simp only[k21]at h
 split at h
 ·cases h
  exact ZuB _
 ·cases h
def k112:Ctr:=⟨112,0,fun _ a=>match a with |[.agg (.ints .i64 w), .int .i64 j]=>some (decide (okw w=true∧0≤j∧j≤1000), .int .i64 (syI w j.toNat),none) |_=>none⟩
theorem ZxO:k112.OK Try.prog:=fun pa args r fr h=>by
 simp only[k112]at h
 split at h
 ·simp only[Option.some.injEq,Prod.mk.injEq,decide_eq_true_eq]at h
  obtain⟨h0,rfl,rfl⟩:=h
  exact Zsk _ _ h0.1 h0.2
 ·cases h
def Kc:List Ctr:=[k129,k73,k23,k74,k21,k112]++Kb
theorem Znc:Zax Try.prog Kc:=⟨ZxU,⟨ZBT,⟨ZA9,⟨Zzz,⟨ZC9,⟨ZxO,Zj4⟩⟩⟩⟩⟩⟩
end Go.Proofs.Ytklbmkllepkjcaa
