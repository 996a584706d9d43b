/- Calls at given values. Printed by facts.py. -/
import Derived.Test.YtbbemleognkdhaaP3
import Derived.KernelRfl
namespace Go.Proofs.Ytbbemleognkdhaa
set_option maxRecDepth 1000000
def aw0:Fact:=⟨14,[],(.agg (.gen [(.int .i64 2),(.int .i64 7),(.int .i64 5)])),none⟩
theorem Zrq:Zaf Try.prog aw0.f aw0.args aw0.r aw0.fr:=Zaa (n:=100000) (l:=[]) follows Zac trivial (by kernel_rfl)
def aw1:Fact:=⟨15,[],(.row 0 0),(some ⟨3,1,(.ints .i64 [(-1),(-1),1,1,(-1),(-1),1,1])⟩)⟩
theorem ZrC:Zaf Try.prog aw1.f aw1.args aw1.r aw1.fr:=Zaa (n:=100000) (l:=[]) follows Zac trivial (by kernel_rfl)
def aw2:Fact:=⟨35,[(.int .i64 2),(.int .i64 1),(.int .i64 3)],(.bool true),none⟩
theorem Zq9:Zaf Try.prog aw2.f aw2.args aw2.r aw2.fr:=Zaa (n:=100000) (l:=[]) follows Zac trivial (by kernel_rfl)
def aw3:Fact:=⟨35,[(.int .i64 7),(.int .i64 1),(.int .i64 7)],(.bool true),none⟩
theorem Zsv:Zaf Try.prog aw3.f aw3.args aw3.r aw3.fr:=Zaa (n:=100000) (l:=[]) follows Zac trivial (by kernel_rfl)
def aw4:Fact:=⟨57,[(.int .i64 7),(.eptr (.int .i64 1) 0),(.eptr (.int .i64 7) 0)],(.bool false),none⟩
theorem ZrT:Zaf Try.prog aw4.f aw4.args aw4.r aw4.fr:=Zaa (n:=100000) (l:=[aw3]) follows Zac ⟨Zsv,trivial⟩ (by kernel_rfl)
def aw5:Fact:=⟨35,[(.int .i64 5),(.int .i64 1),(.int .i64 7)],(.bool true),none⟩
theorem ZrA:Zaf Try.prog aw5.f aw5.args aw5.r aw5.fr:=Zaa (n:=100000) (l:=[]) follows Zac trivial (by kernel_rfl)
def aw6:Fact:=⟨57,[(.int .i64 5),(.eptr (.int .i64 1) 0),(.eptr (.int .i64 7) 0)],(.bool false),none⟩
theorem Zsk:Zaf Try.prog aw6.f aw6.args aw6.r aw6.fr:=Zaa (n:=100000) (l:=[aw5]) follows Zac ⟨ZrA,trivial⟩ (by kernel_rfl)
def aw7:Fact:=⟨72,[(.list (.ints .i64 [7,5])),(.fn 57 [(.eptr (.int .i64 1) 0),(.eptr (.int .i64 7) 0)])],(.int .i64 (-1)),none⟩
theorem Zse:Zaf Try.prog aw7.f aw7.args aw7.r aw7.fr:=Zaa (n:=100000) (l:=[aw4,aw6]) follows Zac ⟨ZrT,⟨Zsk,trivial⟩⟩ (by kernel_rfl)
def aw8:Fact:=⟨56,[(.list (.ints .i64 [7,5])),(.fn 57 [(.eptr (.int .i64 1) 0),(.eptr (.int .i64 7) 0)])],(.bool false),none⟩
theorem Zsn:Zaf Try.prog aw8.f aw8.args aw8.r aw8.fr:=Zaa (n:=100000) (l:=[aw7]) follows Zac ⟨Zse,trivial⟩ (by kernel_rfl)
def aw9:Fact:=⟨34,[(.bool true),(.int .i64 2)],(.int .i64 0),none⟩
theorem Ze5:Zaf Try.prog aw9.f aw9.args aw9.r aw9.fr:=Zaa (n:=100000) (l:=[]) follows Zac trivial (by kernel_rfl)
def aw10:Fact:=⟨45,[(.list (.ints .i64 [7,5])),(.int .i64 1),(.int .i64 7)],(.int .i64 0),none⟩
theorem Zpt:Zaf Try.prog aw10.f aw10.args aw10.r aw10.fr:=Zaa (n:=100000) (l:=[aw8,aw9]) follows Zac ⟨Zsn,⟨Ze5,trivial⟩⟩ (by kernel_rfl)
def aw11:Fact:=⟨26,[(.agg (.gen [(.int .i64 2),(.int .i64 7),(.int .i64 5)]))],(.int .i64 0),none⟩
theorem ZkX:Zaf Try.prog aw11.f aw11.args aw11.r aw11.fr:=Zaa (n:=100000) (l:=[aw2,aw10]) follows Zac ⟨Zq9,⟨Zpt,trivial⟩⟩ (by kernel_rfl)
def aw12:Fact:=⟨34,[(.bool true),(.int .i64 10)],(.int .i64 0),none⟩
theorem ZiD:Zaf Try.prog aw12.f aw12.args aw12.r aw12.fr:=Zaa (n:=100000) (l:=[]) follows Zac trivial (by kernel_rfl)
def aw13:Fact:=⟨34,[(.bool true),(.int .i64 8)],(.int .i64 0),none⟩
theorem ZlM:Zaf Try.prog aw13.f aw13.args aw13.r aw13.fr:=Zaa (n:=100000) (l:=[]) follows Zac trivial (by kernel_rfl)
def aw14:Fact:=⟨35,[(.int .i64 (-1)),(.int .i64 (-7)),(.int .i64 7)],(.bool true),none⟩
theorem ZpS:Zaf Try.prog aw14.f aw14.args aw14.r aw14.fr:=Zaa (n:=100000) (l:=[]) follows Zac trivial (by kernel_rfl)
def aw15:Fact:=⟨57,[(.int .i64 (-1)),(.eptr (.int .i64 (-7)) 0),(.eptr (.int .i64 7) 0)],(.bool false),none⟩
theorem Zpy:Zaf Try.prog aw15.f aw15.args aw15.r aw15.fr:=Zaa (n:=100000) (l:=[aw14]) follows Zac ⟨ZpS,trivial⟩ (by kernel_rfl)
def aw16:Fact:=⟨35,[(.int .i64 1),(.int .i64 (-7)),(.int .i64 7)],(.bool true),none⟩
theorem Zpz:Zaf Try.prog aw16.f aw16.args aw16.r aw16.fr:=Zaa (n:=100000) (l:=[]) follows Zac trivial (by kernel_rfl)
def aw17:Fact:=⟨57,[(.int .i64 1),(.eptr (.int .i64 (-7)) 0),(.eptr (.int .i64 7) 0)],(.bool false),none⟩
theorem Zp8:Zaf Try.prog aw17.f aw17.args aw17.r aw17.fr:=Zaa (n:=100000) (l:=[aw16]) follows Zac ⟨Zpz,trivial⟩ (by kernel_rfl)
def aw18:Fact:=⟨72,[(.list (.ints .i64 [(-1),(-1),1,1,(-1),(-1),1,1])),(.fn 57 [(.eptr (.int .i64 (-7)) 0),(.eptr (.int .i64 7) 0)])],(.int .i64 (-1)),none⟩
theorem ZpQ:Zaf Try.prog aw18.f aw18.args aw18.r aw18.fr:=Zaa (n:=100000) (l:=[aw15,aw17]) follows Zac ⟨Zpy,⟨Zp8,trivial⟩⟩ (by kernel_rfl)
def aw19:Fact:=⟨56,[(.list (.ints .i64 [(-1),(-1),1,1,(-1),(-1),1,1])),(.fn 57 [(.eptr (.int .i64 (-7)) 0),(.eptr (.int .i64 7) 0)])],(.bool false),none⟩
theorem ZqP:Zaf Try.prog aw19.f aw19.args aw19.r aw19.fr:=Zaa (n:=100000) (l:=[aw18]) follows Zac ⟨ZpQ,trivial⟩ (by kernel_rfl)
def aw20:Fact:=⟨45,[(.list (.ints .i64 [(-1),(-1),1,1,(-1),(-1),1,1])),(.int .i64 (-7)),(.int .i64 7)],(.int .i64 0),none⟩
theorem Zqx:Zaf Try.prog aw20.f aw20.args aw20.r aw20.fr:=Zaa (n:=100000) (l:=[aw19,aw9]) follows Zac ⟨ZqP,⟨Ze5,trivial⟩⟩ (by kernel_rfl)
def aw21:Fact:=⟨29,[(.list (.ints .i64 [0,0,0]))],(.int .i64 0),none⟩
theorem Zlx:Zaf Try.prog aw21.f aw21.args aw21.r aw21.fr:=Zaa (n:=100000) (l:=[]) follows Zac trivial (by kernel_rfl)
def aw22:Fact:=⟨27,[(.agg (.gen [(.int .i64 2),(.int .i64 7),(.int .i64 5)])),(.list (.ints .i64 [(-1),(-1),1,1,(-1),(-1),1,1]))],(.int .i64 0),none⟩
theorem ZpJ:Zaf Try.prog aw22.f aw22.args aw22.r aw22.fr:=Zaa (n:=100000) (l:=[aw12,aw13,aw20,aw21]) follows Zac ⟨ZiD,⟨ZlM,⟨Zqx,⟨Zlx,trivial⟩⟩⟩⟩ (by kernel_rfl)
def aw23:Fact:=⟨58,[(.agg (.gen [(.int .i64 2),(.int .i64 7),(.int .i64 5),(.list (.ints .i64 [(-1),(-1),1,1,(-1),(-1),1,1]))]))],(.int .i64 4),none⟩
theorem Zmj:Zaf Try.prog aw23.f aw23.args aw23.r aw23.fr:=Zaa (n:=100000) (l:=[]) follows Zac trivial (by kernel_rfl)
def aw24:Fact:=⟨60,[(.agg (.gen [(.int .i64 2),(.int .i64 7),(.int .i64 5),(.list (.ints .i64 [(-1),(-1),1,1,(-1),(-1),1,1]))]))],(.int .i64 4),none⟩
theorem Zme:Zaf Try.prog aw24.f aw24.args aw24.r aw24.fr:=Zaa (n:=100000) (l:=[]) follows Zac trivial (by kernel_rfl)
def aw25:Fact:=⟨71,[(.int .u64 1),(.int .u64 4)],(.tup [(.int .u64 0),(.int .u64 4)]),none⟩
theorem ZqK:Zaf Try.prog aw25.f aw25.args aw25.r aw25.fr:=Zaa (n:=100000) (l:=[]) follows Zac trivial (by kernel_rfl)
def aw26:Fact:=⟨53,[(.int .u64 1),(.int .u64 4)],(.tup [(.int .u64 0),(.int .u64 4)]),none⟩
theorem Zll:Zaf Try.prog aw26.f aw26.args aw26.r aw26.fr:=Zaa (n:=100000) (l:=[aw25]) follows Zac ⟨ZqK,trivial⟩ (by kernel_rfl)
def aw27:Fact:=⟨59,[(.list (.flts .f32 [3351465984])),(.int .i64 4)],(.row 0 0),(some ⟨88,1,(.flts .f32 [3351465984,3351465984,3351465984,3351465984])⟩)⟩
theorem ZpL:Zaf Try.prog aw27.f aw27.args aw27.r aw27.fr:=Zaa (n:=100000) (l:=[aw26]) follows Zac ⟨Zll,trivial⟩ (by kernel_rfl)
def aw28:Fact:=⟨69,[(.int .u64 0)],(.int .i64 0),none⟩
theorem ZpE:Zaf Try.prog aw28.f aw28.args aw28.r aw28.fr:=Zaa (n:=100000) (l:=[]) follows Zac trivial (by kernel_rfl)
def aw29:Fact:=⟨52,[(.int .u64 0)],(.int .i64 0),none⟩
theorem Zl6:Zaf Try.prog aw29.f aw29.args aw29.r aw29.fr:=Zaa (n:=100000) (l:=[aw28]) follows Zac ⟨ZpE,trivial⟩ (by kernel_rfl)
def aw30:Fact:=⟨40,[(.agg (.gen [(.int .i64 2),(.int .i64 7),(.int .i64 5)])),(.int .i64 0),(.int .i64 0)],(.tup [(.int .i64 0),(.agg (.ints .i64 [0,0]))]),none⟩
theorem ZkY:Zaf Try.prog aw30.f aw30.args aw30.r aw30.fr:=Zaa (n:=100000) (l:=[aw29]) follows Zac ⟨Zl6,trivial⟩ (by kernel_rfl)
def aw31:Fact:=⟨62,[(.int .i64 0),(.int .i64 1)],(.int .i64 1),none⟩
theorem ZlB:Zaf Try.prog aw31.f aw31.args aw31.r aw31.fr:=Zaa (n:=100000) (l:=[]) follows Zac trivial (by kernel_rfl)
def aw32:Fact:=⟨47,[(.agg (.gen [(.int .i64 2),(.int .i64 7),(.int .i64 5),(.list (.ints .i64 [(-1),(-1),1,1,(-1),(-1),1,1]))]))],(.int .i64 2),none⟩
theorem ZkT:Zaf Try.prog aw32.f aw32.args aw32.r aw32.fr:=Zaa (n:=100000) (l:=[aw23]) follows Zac ⟨Zmj,trivial⟩ (by kernel_rfl)
def aw33:Fact:=⟨69,[(.int .u64 1)],(.int .i64 1),none⟩
theorem Zqn:Zaf Try.prog aw33.f aw33.args aw33.r aw33.fr:=Zaa (n:=100000) (l:=[]) follows Zac trivial (by kernel_rfl)
def aw34:Fact:=⟨52,[(.int .u64 1)],(.int .i64 1),none⟩
theorem ZlO:Zaf Try.prog aw34.f aw34.args aw34.r aw34.fr:=Zaa (n:=100000) (l:=[aw33]) follows Zac ⟨Zqn,trivial⟩ (by kernel_rfl)
def aw35:Fact:=⟨40,[(.agg (.gen [(.int .i64 2),(.int .i64 7),(.int .i64 5)])),(.int .i64 1),(.int .i64 0)],(.tup [(.int .i64 0),(.agg (.ints .i64 [1,1]))]),none⟩
theorem Zip:Zaf Try.prog aw35.f aw35.args aw35.r aw35.fr:=Zaa (n:=100000) (l:=[aw34]) follows Zac ⟨ZlO,trivial⟩ (by kernel_rfl)
def aw36:Fact:=⟨62,[(.int .i64 1),(.int .i64 1)],(.int .i64 (-1)),none⟩
theorem Zk6:Zaf Try.prog aw36.f aw36.args aw36.r aw36.fr:=Zaa (n:=100000) (l:=[]) follows Zac trivial (by kernel_rfl)
def aw37:Fact:=⟨69,[(.int .u64 2)],(.int .i64 1),none⟩
theorem ZpG:Zaf Try.prog aw37.f aw37.args aw37.r aw37.fr:=Zaa (n:=100000) (l:=[]) follows Zac trivial (by kernel_rfl)
def aw38:Fact:=⟨52,[(.int .u64 2)],(.int .i64 1),none⟩
theorem Zqe:Zaf Try.prog aw38.f aw38.args aw38.r aw38.fr:=Zaa (n:=100000) (l:=[aw37]) follows Zac ⟨ZpG,trivial⟩ (by kernel_rfl)
def aw39:Fact:=⟨40,[(.agg (.gen [(.int .i64 2),(.int .i64 7),(.int .i64 5)])),(.int .i64 2),(.int .i64 0)],(.tup [(.int .i64 1),(.agg (.ints .i64 [1,0]))]),none⟩
theorem ZhW:Zaf Try.prog aw39.f aw39.args aw39.r aw39.fr:=Zaa (n:=100000) (l:=[aw38,aw29]) follows Zac ⟨Zqe,⟨Zl6,trivial⟩⟩ (by kernel_rfl)
def aw40:Fact:=⟨69,[(.int .u64 3)],(.int .i64 2),none⟩
theorem Zqz:Zaf Try.prog aw40.f aw40.args aw40.r aw40.fr:=Zaa (n:=100000) (l:=[]) follows Zac trivial (by kernel_rfl)
def aw41:Fact:=⟨52,[(.int .u64 3)],(.int .i64 2),none⟩
theorem ZpO:Zaf Try.prog aw41.f aw41.args aw41.r aw41.fr:=Zaa (n:=100000) (l:=[aw40]) follows Zac ⟨Zqz,trivial⟩ (by kernel_rfl)
def aw42:Fact:=⟨40,[(.agg (.gen [(.int .i64 2),(.int .i64 7),(.int .i64 5)])),(.int .i64 3),(.int .i64 0)],(.tup [(.int .i64 1),(.agg (.ints .i64 [0,1]))]),none⟩
theorem ZlV:Zaf Try.prog aw42.f aw42.args aw42.r aw42.fr:=Zaa (n:=100000) (l:=[aw41,aw34]) follows Zac ⟨ZpO,⟨ZlO,trivial⟩⟩ (by kernel_rfl)
def aw43:Fact:=⟨62,[(.int .i64 0),(.int .i64 (-1))],(.int .i64 (-1)),none⟩
theorem ZlK:Zaf Try.prog aw43.f aw43.args aw43.r aw43.fr:=Zaa (n:=100000) (l:=[]) follows Zac trivial (by kernel_rfl)
def aw44:Fact:=⟨62,[(.int .i64 1),(.int .i64 (-1))],(.int .i64 1),none⟩
theorem Zls:Zaf Try.prog aw44.f aw44.args aw44.r aw44.fr:=Zaa (n:=100000) (l:=[]) follows Zac trivial (by kernel_rfl)
def aw45:Fact:=⟨69,[(.int .u64 4)],(.int .i64 1),none⟩
theorem Zp6:Zaf Try.prog aw45.f aw45.args aw45.r aw45.fr:=Zaa (n:=100000) (l:=[]) follows Zac trivial (by kernel_rfl)
def aw46:Fact:=⟨52,[(.int .u64 4)],(.int .i64 1),none⟩
theorem Zmd:Zaf Try.prog aw46.f aw46.args aw46.r aw46.fr:=Zaa (n:=100000) (l:=[aw45]) follows Zac ⟨Zp6,trivial⟩ (by kernel_rfl)
def aw47:Fact:=⟨40,[(.agg (.gen [(.int .i64 2),(.int .i64 7),(.int .i64 5)])),(.int .i64 0),(.int .i64 1)],(.tup [(.int .i64 2),(.agg (.ints .i64 [1,1]))]),none⟩
theorem Zh5:Zaf Try.prog aw47.f aw47.args aw47.r aw47.fr:=Zaa (n:=100000) (l:=[aw46]) follows Zac ⟨Zmd,trivial⟩ (by kernel_rfl)
def aw48:Fact:=⟨69,[(.int .u64 5)],(.int .i64 2),none⟩
theorem Zpu:Zaf Try.prog aw48.f aw48.args aw48.r aw48.fr:=Zaa (n:=100000) (l:=[]) follows Zac trivial (by kernel_rfl)
def aw49:Fact:=⟨52,[(.int .u64 5)],(.int .i64 2),none⟩
theorem Zl8:Zaf Try.prog aw49.f aw49.args aw49.r aw49.fr:=Zaa (n:=100000) (l:=[aw48]) follows Zac ⟨Zpu,trivial⟩ (by kernel_rfl)
def aw50:Fact:=⟨40,[(.agg (.gen [(.int .i64 2),(.int .i64 7),(.int .i64 5)])),(.int .i64 1),(.int .i64 1)],(.tup [(.int .i64 2),(.agg (.ints .i64 [0,0]))]),none⟩
theorem Zie:Zaf Try.prog aw50.f aw50.args aw50.r aw50.fr:=Zaa (n:=100000) (l:=[aw49]) follows Zac ⟨Zl8,trivial⟩ (by kernel_rfl)
def aw51:Fact:=⟨69,[(.int .u64 6)],(.int .i64 2),none⟩
theorem ZqJ:Zaf Try.prog aw51.f aw51.args aw51.r aw51.fr:=Zaa (n:=100000) (l:=[]) follows Zac trivial (by kernel_rfl)
def aw52:Fact:=⟨52,[(.int .u64 6)],(.int .i64 2),none⟩
theorem Zqw:Zaf Try.prog aw52.f aw52.args aw52.r aw52.fr:=Zaa (n:=100000) (l:=[aw51]) follows Zac ⟨ZqJ,trivial⟩ (by kernel_rfl)
def aw53:Fact:=⟨40,[(.agg (.gen [(.int .i64 2),(.int .i64 7),(.int .i64 5)])),(.int .i64 2),(.int .i64 1)],(.tup [(.int .i64 3),(.agg (.ints .i64 [0,1]))]),none⟩
theorem Zle:Zaf Try.prog aw53.f aw53.args aw53.r aw53.fr:=Zaa (n:=100000) (l:=[aw52,aw46]) follows Zac ⟨Zqw,⟨Zmd,trivial⟩⟩ (by kernel_rfl)
def aw54:Fact:=⟨69,[(.int .u64 7)],(.int .i64 3),none⟩
theorem Zqt:Zaf Try.prog aw54.f aw54.args aw54.r aw54.fr:=Zaa (n:=100000) (l:=[]) follows Zac trivial (by kernel_rfl)
def aw55:Fact:=⟨52,[(.int .u64 7)],(.int .i64 3),none⟩
theorem Zpj:Zaf Try.prog aw55.f aw55.args aw55.r aw55.fr:=Zaa (n:=100000) (l:=[aw54]) follows Zac ⟨Zqt,trivial⟩ (by kernel_rfl)
def aw56:Fact:=⟨40,[(.agg (.gen [(.int .i64 2),(.int .i64 7),(.int .i64 5)])),(.int .i64 3),(.int .i64 1)],(.tup [(.int .i64 3),(.agg (.ints .i64 [1,0]))]),none⟩
theorem Zl0:Zaf Try.prog aw56.f aw56.args aw56.r aw56.fr:=Zaa (n:=100000) (l:=[aw55,aw49]) follows Zac ⟨Zpj,⟨Zl8,trivial⟩⟩ (by kernel_rfl)
def aw57:Fact:=⟨46,[(.agg (.gen [(.int .i64 2),(.int .i64 7),(.int .i64 5),(.list (.ints .i64 [(-1),(-1),1,1,(-1),(-1),1,1]))]))],(.list (.gen [(.list (.flts .f32 [1086324736,1082130432,1082130432,1082130432])),(.list (.flts .f32 [1073741824,0,1082130432,1082130432])),(.list (.flts .f32 [0,1082130432,3221225472,3221225472])),(.list (.flts .f32 [1073741824,3221225472,3351465984,3351465984])),(.list (.flts .f32 [0,3351465984,3351465984,3351465984]))])),none⟩
theorem Zqi:Zaf Try.prog aw57.f aw57.args aw57.r aw57.fr:=Zaa (n:=100000) (l:=[aw23,aw24,aw27,aw30,aw31,aw32,aw35,aw36,aw39,aw42,aw43,aw44,aw47,aw50,aw53,aw56]) follows Zac ⟨Zmj,⟨Zme,⟨ZpL,⟨ZkY,⟨ZlB,⟨ZkT,⟨Zip,⟨Zk6,⟨ZhW,⟨ZlV,⟨ZlK,⟨Zls,⟨Zh5,⟨Zie,⟨Zle,⟨Zl0,trivial⟩⟩⟩⟩⟩⟩⟩⟩⟩⟩⟩⟩⟩⟩⟩⟩ (by kernel_rfl)
def aw58:Fact:=⟨28,[(.agg (.gen [(.int .i64 2),(.int .i64 7),(.int .i64 5),(.list (.ints .i64 [(-1),(-1),1,1,(-1),(-1),1,1]))]))],(.tup [(.row 0 0),(.int .i64 6)]),(some ⟨3,1,(.ints .i64 [1,0])⟩)⟩
theorem ZqN:Zaf Try.prog aw58.f aw58.args aw58.r aw58.fr:=Zaa (n:=100000) (l:=[aw57,aw32,aw24,aw30,aw43,aw47,aw44,aw31,aw36,aw35,aw50,aw39]) follows Zac ⟨Zqi,⟨ZkT,⟨Zme,⟨ZkY,⟨ZlK,⟨Zh5,⟨Zls,⟨ZlB,⟨Zk6,⟨Zip,⟨Zie,⟨ZhW,trivial⟩⟩⟩⟩⟩⟩⟩⟩⟩⟩⟩⟩ (by kernel_rfl)
def aw59:Fact:=⟨13,[(.agg (.gen [(.int .i64 2),(.int .i64 7),(.int .i64 5)])),(.list (.ints .i64 [(-1),(-1),1,1,(-1),(-1),1,1]))],(.tup [(.row 0 0),(.int .i64 6),(.int .i64 0)]),(some ⟨3,1,(.ints .i64 [1,0])⟩)⟩
theorem Zqa:Zaf Try.prog aw59.f aw59.args aw59.r aw59.fr:=Zaa (n:=100000) (l:=[aw11,aw22,aw58]) follows Zac ⟨ZkX,⟨ZpJ,⟨ZqN,trivial⟩⟩⟩ (by kernel_rfl)
def aw60:Fact:=⟨17,[(.int .i64 1)],(.row 0 0),(some ⟨3,1,(.ints .i64 [0,0,0,0,0,0,0,0,0,0,0,0,1])⟩)⟩
theorem Zp7:Zaf Try.prog aw60.f aw60.args aw60.r aw60.fr:=Zaa (n:=100000) (l:=[]) follows Zac trivial (by kernel_rfl)
def aw61:Fact:=⟨35,[(.int .i64 1),(.int .i64 1),(.int .i64 3)],(.bool true),none⟩
theorem Zp3:Zaf Try.prog aw61.f aw61.args aw61.r aw61.fr:=Zaa (n:=100000) (l:=[]) follows Zac trivial (by kernel_rfl)
def aw62:Fact:=⟨30,[(.int .i64 1)],(.int .i64 0),none⟩
theorem Zp5:Zaf Try.prog aw62.f aw62.args aw62.r aw62.fr:=Zaa (n:=100000) (l:=[aw61,aw9]) follows Zac ⟨Zp3,⟨Ze5,trivial⟩⟩ (by kernel_rfl)
def aw63:Fact:=⟨35,[(.int .i64 0),(.int .i64 0),(.int .i64 15)],(.bool true),none⟩
theorem Zqy:Zaf Try.prog aw63.f aw63.args aw63.r aw63.fr:=Zaa (n:=100000) (l:=[]) follows Zac trivial (by kernel_rfl)
def aw64:Fact:=⟨57,[(.int .i64 0),(.eptr (.int .i64 0) 0),(.eptr (.int .i64 15) 0)],(.bool false),none⟩
theorem ZqC:Zaf Try.prog aw64.f aw64.args aw64.r aw64.fr:=Zaa (n:=100000) (l:=[aw63]) follows Zac ⟨Zqy,trivial⟩ (by kernel_rfl)
def aw65:Fact:=⟨35,[(.int .i64 1),(.int .i64 0),(.int .i64 15)],(.bool true),none⟩
theorem ZpX:Zaf Try.prog aw65.f aw65.args aw65.r aw65.fr:=Zaa (n:=100000) (l:=[]) follows Zac trivial (by kernel_rfl)
def aw66:Fact:=⟨57,[(.int .i64 1),(.eptr (.int .i64 0) 0),(.eptr (.int .i64 15) 0)],(.bool false),none⟩
theorem ZqH:Zaf Try.prog aw66.f aw66.args aw66.r aw66.fr:=Zaa (n:=100000) (l:=[aw65]) follows Zac ⟨ZpX,trivial⟩ (by kernel_rfl)
def aw67:Fact:=⟨72,[(.list (.ints .i64 [0,0,0,0,0,0,0,0,0,0,0,0,1])),(.fn 57 [(.eptr (.int .i64 0) 0),(.eptr (.int .i64 15) 0)])],(.int .i64 (-1)),none⟩
theorem Zpl:Zaf Try.prog aw67.f aw67.args aw67.r aw67.fr:=Zaa (n:=100000) (l:=[aw64,aw66]) follows Zac ⟨ZqC,⟨ZqH,trivial⟩⟩ (by kernel_rfl)
def aw68:Fact:=⟨56,[(.list (.ints .i64 [0,0,0,0,0,0,0,0,0,0,0,0,1])),(.fn 57 [(.eptr (.int .i64 0) 0),(.eptr (.int .i64 15) 0)])],(.bool false),none⟩
theorem ZpZ:Zaf Try.prog aw68.f aw68.args aw68.r aw68.fr:=Zaa (n:=100000) (l:=[aw67]) follows Zac ⟨Zpl,trivial⟩ (by kernel_rfl)
def aw69:Fact:=⟨45,[(.list (.ints .i64 [0,0,0,0,0,0,0,0,0,0,0,0,1])),(.int .i64 0),(.int .i64 15)],(.int .i64 0),none⟩
theorem ZpH:Zaf Try.prog aw69.f aw69.args aw69.r aw69.fr:=Zaa (n:=100000) (l:=[aw68,aw9]) follows Zac ⟨ZpZ,⟨Ze5,trivial⟩⟩ (by kernel_rfl)
def aw70:Fact:=⟨29,[(.list (.ints .i64 [0,0]))],(.int .i64 0),none⟩
theorem Zgm:Zaf Try.prog aw70.f aw70.args aw70.r aw70.fr:=Zaa (n:=100000) (l:=[]) follows Zac trivial (by kernel_rfl)
def aw71:Fact:=⟨31,[(.list (.ints .i64 [0,0,0,0,0,0,0,0,0,0,0,0,1])),(.int .i64 13)],(.int .i64 0),none⟩
theorem ZpV:Zaf Try.prog aw71.f aw71.args aw71.r aw71.fr:=Zaa (n:=100000) (l:=[aw12,aw69,aw70]) follows Zac ⟨ZiD,⟨ZpH,⟨Zgm,trivial⟩⟩⟩ (by kernel_rfl)
def aw72:Fact:=⟨74,[(.int .i64 1),(.int .i64 2)],(.int .i64 2),none⟩
theorem ZaD:Zaf Try.prog aw72.f aw72.args aw72.r aw72.fr:=Zaa (n:=100000) (l:=[]) follows Zac trivial (by kernel_rfl)
def aw73:Fact:=⟨74,[(.int .i64 2),(.int .i64 2)],(.int .i64 4),none⟩
theorem ZaH:Zaf Try.prog aw73.f aw73.args aw73.r aw73.fr:=Zaa (n:=100000) (l:=[]) follows Zac trivial (by kernel_rfl)
def aw74:Fact:=⟨74,[(.int .i64 4),(.int .i64 2)],(.int .i64 8),none⟩
theorem ZaO:Zaf Try.prog aw74.f aw74.args aw74.r aw74.fr:=Zaa (n:=100000) (l:=[]) follows Zac trivial (by kernel_rfl)
def aw75:Fact:=⟨74,[(.int .i64 8),(.int .i64 2)],(.int .i64 3),none⟩
theorem ZaW:Zaf Try.prog aw75.f aw75.args aw75.r aw75.fr:=Zaa (n:=100000) (l:=[]) follows Zac trivial (by kernel_rfl)
def aw76:Fact:=⟨74,[(.int .i64 3),(.int .i64 2)],(.int .i64 6),none⟩
theorem ZaV:Zaf Try.prog aw76.f aw76.args aw76.r aw76.fr:=Zaa (n:=100000) (l:=[]) follows Zac trivial (by kernel_rfl)
def aw77:Fact:=⟨74,[(.int .i64 6),(.int .i64 2)],(.int .i64 12),none⟩
theorem Zba:Zaf Try.prog aw77.f aw77.args aw77.r aw77.fr:=Zaa (n:=100000) (l:=[]) follows Zac trivial (by kernel_rfl)
def aw78:Fact:=⟨74,[(.int .i64 12),(.int .i64 2)],(.int .i64 11),none⟩
theorem Zbl:Zaf Try.prog aw78.f aw78.args aw78.r aw78.fr:=Zaa (n:=100000) (l:=[]) follows Zac trivial (by kernel_rfl)
def aw79:Fact:=⟨74,[(.int .i64 11),(.int .i64 2)],(.int .i64 5),none⟩
theorem ZbM:Zaf Try.prog aw79.f aw79.args aw79.r aw79.fr:=Zaa (n:=100000) (l:=[]) follows Zac trivial (by kernel_rfl)
def aw80:Fact:=⟨74,[(.int .i64 5),(.int .i64 2)],(.int .i64 10),none⟩
theorem Zb3:Zaf Try.prog aw80.f aw80.args aw80.r aw80.fr:=Zaa (n:=100000) (l:=[]) follows Zac trivial (by kernel_rfl)
def aw81:Fact:=⟨74,[(.int .i64 10),(.int .i64 2)],(.int .i64 7),none⟩
theorem ZcV:Zaf Try.prog aw81.f aw81.args aw81.r aw81.fr:=Zaa (n:=100000) (l:=[]) follows Zac trivial (by kernel_rfl)
def aw82:Fact:=⟨74,[(.int .i64 7),(.int .i64 2)],(.int .i64 14),none⟩
theorem ZdO:Zaf Try.prog aw82.f aw82.args aw82.r aw82.fr:=Zaa (n:=100000) (l:=[]) follows Zac trivial (by kernel_rfl)
def aw83:Fact:=⟨74,[(.int .i64 14),(.int .i64 2)],(.int .i64 15),none⟩
theorem Zgc:Zaf Try.prog aw83.f aw83.args aw83.r aw83.fr:=Zaa (n:=100000) (l:=[]) follows Zac trivial (by kernel_rfl)
def aw84:Fact:=⟨74,[(.int .i64 15),(.int .i64 2)],(.int .i64 13),none⟩
theorem ZiE:Zaf Try.prog aw84.f aw84.args aw84.r aw84.fr:=Zaa (n:=100000) (l:=[]) follows Zac trivial (by kernel_rfl)
def aw85:Fact:=⟨74,[(.int .i64 13),(.int .i64 2)],(.int .i64 9),none⟩
theorem ZpP:Zaf Try.prog aw85.f aw85.args aw85.r aw85.fr:=Zaa (n:=100000) (l:=[]) follows Zac trivial (by kernel_rfl)
def aw86:Fact:=⟨64,[(.int .i64 14)],(.int .i64 9),none⟩
theorem Zln:Zaf Try.prog aw86.f aw86.args aw86.r aw86.fr:=Zaa (n:=100000) (l:=[aw72,aw73,aw74,aw75,aw76,aw77,aw78,aw79,aw80,aw81,aw82,aw83,aw84,aw85]) follows Zac ⟨ZaD,⟨ZaH,⟨ZaO,⟨ZaW,⟨ZaV,⟨Zba,⟨Zbl,⟨ZbM,⟨Zb3,⟨ZcV,⟨ZdO,⟨Zgc,⟨ZiE,⟨ZpP,trivial⟩⟩⟩⟩⟩⟩⟩⟩⟩⟩⟩⟩⟩⟩ (by kernel_rfl)
def aw87:Fact:=⟨74,[(.int .i64 0),(.int .i64 9)],(.int .i64 0),none⟩
theorem Zih:Zaf Try.prog aw87.f aw87.args aw87.r aw87.fr:=Zaa (n:=100000) (l:=[]) follows Zac trivial (by kernel_rfl)
def aw88:Fact:=⟨64,[(.int .i64 13)],(.int .i64 13),none⟩
theorem Zpp:Zaf Try.prog aw88.f aw88.args aw88.r aw88.fr:=Zaa (n:=100000) (l:=[aw72,aw73,aw74,aw75,aw76,aw77,aw78,aw79,aw80,aw81,aw82,aw83,aw84]) follows Zac ⟨ZaD,⟨ZaH,⟨ZaO,⟨ZaW,⟨ZaV,⟨Zba,⟨Zbl,⟨ZbM,⟨Zb3,⟨ZcV,⟨ZdO,⟨Zgc,⟨ZiE,trivial⟩⟩⟩⟩⟩⟩⟩⟩⟩⟩⟩⟩⟩ (by kernel_rfl)
def aw89:Fact:=⟨74,[(.int .i64 0),(.int .i64 13)],(.int .i64 0),none⟩
theorem Zk8:Zaf Try.prog aw89.f aw89.args aw89.r aw89.fr:=Zaa (n:=100000) (l:=[]) follows Zac trivial (by kernel_rfl)
def aw90:Fact:=⟨64,[(.int .i64 12)],(.int .i64 15),none⟩
theorem Zlf:Zaf Try.prog aw90.f aw90.args aw90.r aw90.fr:=Zaa (n:=100000) (l:=[aw72,aw73,aw74,aw75,aw76,aw77,aw78,aw79,aw80,aw81,aw82,aw83]) follows Zac ⟨ZaD,⟨ZaH,⟨ZaO,⟨ZaW,⟨ZaV,⟨Zba,⟨Zbl,⟨ZbM,⟨Zb3,⟨ZcV,⟨ZdO,⟨Zgc,trivial⟩⟩⟩⟩⟩⟩⟩⟩⟩⟩⟩⟩ (by kernel_rfl)
def aw91:Fact:=⟨74,[(.int .i64 0),(.int .i64 15)],(.int .i64 0),none⟩
theorem Zld:Zaf Try.prog aw91.f aw91.args aw91.r aw91.fr:=Zaa (n:=100000) (l:=[]) follows Zac trivial (by kernel_rfl)
def aw92:Fact:=⟨64,[(.int .i64 11)],(.int .i64 14),none⟩
theorem ZpK:Zaf Try.prog aw92.f aw92.args aw92.r aw92.fr:=Zaa (n:=100000) (l:=[aw72,aw73,aw74,aw75,aw76,aw77,aw78,aw79,aw80,aw81,aw82]) follows Zac ⟨ZaD,⟨ZaH,⟨ZaO,⟨ZaW,⟨ZaV,⟨Zba,⟨Zbl,⟨ZbM,⟨Zb3,⟨ZcV,⟨ZdO,trivial⟩⟩⟩⟩⟩⟩⟩⟩⟩⟩⟩ (by kernel_rfl)
def aw93:Fact:=⟨74,[(.int .i64 0),(.int .i64 14)],(.int .i64 0),none⟩
theorem ZhX:Zaf Try.prog aw93.f aw93.args aw93.r aw93.fr:=Zaa (n:=100000) (l:=[]) follows Zac trivial (by kernel_rfl)
def aw94:Fact:=⟨64,[(.int .i64 10)],(.int .i64 7),none⟩
theorem ZlG:Zaf Try.prog aw94.f aw94.args aw94.r aw94.fr:=Zaa (n:=100000) (l:=[aw72,aw73,aw74,aw75,aw76,aw77,aw78,aw79,aw80,aw81]) follows Zac ⟨ZaD,⟨ZaH,⟨ZaO,⟨ZaW,⟨ZaV,⟨Zba,⟨Zbl,⟨ZbM,⟨Zb3,⟨ZcV,trivial⟩⟩⟩⟩⟩⟩⟩⟩⟩⟩ (by kernel_rfl)
def aw95:Fact:=⟨74,[(.int .i64 0),(.int .i64 7)],(.int .i64 0),none⟩
theorem Zlt:Zaf Try.prog aw95.f aw95.args aw95.r aw95.fr:=Zaa (n:=100000) (l:=[]) follows Zac trivial (by kernel_rfl)
def aw96:Fact:=⟨64,[(.int .i64 9)],(.int .i64 10),none⟩
theorem Zpo:Zaf Try.prog aw96.f aw96.args aw96.r aw96.fr:=Zaa (n:=100000) (l:=[aw72,aw73,aw74,aw75,aw76,aw77,aw78,aw79,aw80]) follows Zac ⟨ZaD,⟨ZaH,⟨ZaO,⟨ZaW,⟨ZaV,⟨Zba,⟨Zbl,⟨ZbM,⟨Zb3,trivial⟩⟩⟩⟩⟩⟩⟩⟩⟩ (by kernel_rfl)
def aw97:Fact:=⟨74,[(.int .i64 0),(.int .i64 10)],(.int .i64 0),none⟩
theorem ZlD:Zaf Try.prog aw97.f aw97.args aw97.r aw97.fr:=Zaa (n:=100000) (l:=[]) follows Zac trivial (by kernel_rfl)
def aw98:Fact:=⟨64,[(.int .i64 8)],(.int .i64 5),none⟩
theorem Zlb:Zaf Try.prog aw98.f aw98.args aw98.r aw98.fr:=Zaa (n:=100000) (l:=[aw72,aw73,aw74,aw75,aw76,aw77,aw78,aw79]) follows Zac ⟨ZaD,⟨ZaH,⟨ZaO,⟨ZaW,⟨ZaV,⟨Zba,⟨Zbl,⟨ZbM,trivial⟩⟩⟩⟩⟩⟩⟩⟩ (by kernel_rfl)
def aw99:Fact:=⟨74,[(.int .i64 0),(.int .i64 5)],(.int .i64 0),none⟩
theorem Zmh:Zaf Try.prog aw99.f aw99.args aw99.r aw99.fr:=Zaa (n:=100000) (l:=[]) follows Zac trivial (by kernel_rfl)
def aw100:Fact:=⟨64,[(.int .i64 7)],(.int .i64 11),none⟩
theorem ZmB:Zaf Try.prog aw100.f aw100.args aw100.r aw100.fr:=Zaa (n:=100000) (l:=[aw72,aw73,aw74,aw75,aw76,aw77,aw78]) follows Zac ⟨ZaD,⟨ZaH,⟨ZaO,⟨ZaW,⟨ZaV,⟨Zba,⟨Zbl,trivial⟩⟩⟩⟩⟩⟩⟩ (by kernel_rfl)
def aw101:Fact:=⟨74,[(.int .i64 0),(.int .i64 11)],(.int .i64 0),none⟩
theorem Zi9:Zaf Try.prog aw101.f aw101.args aw101.r aw101.fr:=Zaa (n:=100000) (l:=[]) follows Zac trivial (by kernel_rfl)
def aw102:Fact:=⟨64,[(.int .i64 6)],(.int .i64 12),none⟩
theorem ZiY:Zaf Try.prog aw102.f aw102.args aw102.r aw102.fr:=Zaa (n:=100000) (l:=[aw72,aw73,aw74,aw75,aw76,aw77]) follows Zac ⟨ZaD,⟨ZaH,⟨ZaO,⟨ZaW,⟨ZaV,⟨Zba,trivial⟩⟩⟩⟩⟩⟩ (by kernel_rfl)
def aw103:Fact:=⟨74,[(.int .i64 0),(.int .i64 12)],(.int .i64 0),none⟩
theorem ZjF:Zaf Try.prog aw103.f aw103.args aw103.r aw103.fr:=Zaa (n:=100000) (l:=[]) follows Zac trivial (by kernel_rfl)
def aw104:Fact:=⟨64,[(.int .i64 5)],(.int .i64 6),none⟩
theorem Zoj:Zaf Try.prog aw104.f aw104.args aw104.r aw104.fr:=Zaa (n:=100000) (l:=[aw72,aw73,aw74,aw75,aw76]) follows Zac ⟨ZaD,⟨ZaH,⟨ZaO,⟨ZaW,⟨ZaV,trivial⟩⟩⟩⟩⟩ (by kernel_rfl)
def aw105:Fact:=⟨74,[(.int .i64 0),(.int .i64 6)],(.int .i64 0),none⟩
theorem Zjb:Zaf Try.prog aw105.f aw105.args aw105.r aw105.fr:=Zaa (n:=100000) (l:=[]) follows Zac trivial (by kernel_rfl)
def aw106:Fact:=⟨64,[(.int .i64 4)],(.int .i64 3),none⟩
theorem Zjo:Zaf Try.prog aw106.f aw106.args aw106.r aw106.fr:=Zaa (n:=100000) (l:=[aw72,aw73,aw74,aw75]) follows Zac ⟨ZaD,⟨ZaH,⟨ZaO,⟨ZaW,trivial⟩⟩⟩⟩ (by kernel_rfl)
def aw107:Fact:=⟨74,[(.int .i64 0),(.int .i64 3)],(.int .i64 0),none⟩
theorem ZoF:Zaf Try.prog aw107.f aw107.args aw107.r aw107.fr:=Zaa (n:=100000) (l:=[]) follows Zac trivial (by kernel_rfl)
def aw108:Fact:=⟨64,[(.int .i64 3)],(.int .i64 8),none⟩
theorem Zob:Zaf Try.prog aw108.f aw108.args aw108.r aw108.fr:=Zaa (n:=100000) (l:=[aw72,aw73,aw74]) follows Zac ⟨ZaD,⟨ZaH,⟨ZaO,trivial⟩⟩⟩ (by kernel_rfl)
def aw109:Fact:=⟨74,[(.int .i64 0),(.int .i64 8)],(.int .i64 0),none⟩
theorem Zjd:Zaf Try.prog aw109.f aw109.args aw109.r aw109.fr:=Zaa (n:=100000) (l:=[]) follows Zac trivial (by kernel_rfl)
def aw110:Fact:=⟨64,[(.int .i64 2)],(.int .i64 4),none⟩
theorem Zgo:Zaf Try.prog aw110.f aw110.args aw110.r aw110.fr:=Zaa (n:=100000) (l:=[aw72,aw73]) follows Zac ⟨ZaD,⟨ZaH,trivial⟩⟩ (by kernel_rfl)
def aw111:Fact:=⟨74,[(.int .i64 1),(.int .i64 4)],(.int .i64 4),none⟩
theorem ZiP:Zaf Try.prog aw111.f aw111.args aw111.r aw111.fr:=Zaa (n:=100000) (l:=[]) follows Zac trivial (by kernel_rfl)
def aw112:Fact:=⟨64,[(.int .i64 1)],(.int .i64 2),none⟩
theorem ZjB:Zaf Try.prog aw112.f aw112.args aw112.r aw112.fr:=Zaa (n:=100000) (l:=[aw72]) follows Zac ⟨ZaD,trivial⟩ (by kernel_rfl)
def aw113:Fact:=⟨74,[(.int .i64 0),(.int .i64 2)],(.int .i64 0),none⟩
theorem ZiR:Zaf Try.prog aw113.f aw113.args aw113.r aw113.fr:=Zaa (n:=100000) (l:=[]) follows Zac trivial (by kernel_rfl)
def aw114:Fact:=⟨64,[(.int .i64 0)],(.int .i64 1),none⟩
theorem Zgt:Zaf Try.prog aw114.f aw114.args aw114.r aw114.fr:=Zaa (n:=100000) (l:=[]) follows Zac trivial (by kernel_rfl)
def aw115:Fact:=⟨74,[(.int .i64 0),(.int .i64 1)],(.int .i64 0),none⟩
theorem Zjk:Zaf Try.prog aw115.f aw115.args aw115.r aw115.fr:=Zaa (n:=100000) (l:=[]) follows Zac trivial (by kernel_rfl)
def aw116:Fact:=⟨73,[(.agg (.ints .i64 [0,0,0,0,0,0,0,0,0,0,0,0,1,0,0])),(.int .i64 1)],(.int .i64 4),none⟩
theorem ZmF:Zaf Try.prog aw116.f aw116.args aw116.r aw116.fr:=Zaa (n:=100000) (l:=[aw86,aw87,aw88,aw89,aw90,aw91,aw92,aw93,aw94,aw95,aw96,aw97,aw98,aw99,aw100,aw101,aw102,aw103,aw104,aw105,aw106,aw107,aw108,aw109,aw110,aw111,aw112,aw113,aw114,aw115]) follows Zac ⟨Zln,⟨Zih,⟨Zpp,⟨Zk8,⟨Zlf,⟨Zld,⟨ZpK,⟨ZhX,⟨ZlG,⟨Zlt,⟨Zpo,⟨ZlD,⟨Zlb,⟨Zmh,⟨ZmB,⟨Zi9,⟨ZiY,⟨ZjF,⟨Zoj,⟨Zjb,⟨Zjo,⟨ZoF,⟨Zob,⟨Zjd,⟨Zgo,⟨ZiP,⟨ZjB,⟨ZiR,⟨Zgt,⟨Zjk,trivial⟩⟩⟩⟩⟩⟩⟩⟩⟩⟩⟩⟩⟩⟩⟩⟩⟩⟩⟩⟩⟩⟩⟩⟩⟩⟩⟩⟩⟩⟩ (by kernel_rfl)
def aw117:Fact:=⟨64,[(.int .i64 28)],(.int .i64 13),none⟩
theorem ZmM:Zaf Try.prog aw117.f aw117.args aw117.r aw117.fr:=Zaa (n:=100000) (l:=[aw72,aw73,aw74,aw75,aw76,aw77,aw78,aw79,aw80,aw81,aw82,aw83,aw84]) follows Zac ⟨ZaD,⟨ZaH,⟨ZaO,⟨ZaW,⟨ZaV,⟨Zba,⟨Zbl,⟨ZbM,⟨Zb3,⟨ZcV,⟨ZdO,⟨Zgc,⟨ZiE,trivial⟩⟩⟩⟩⟩⟩⟩⟩⟩⟩⟩⟩⟩ (by kernel_rfl)
def aw118:Fact:=⟨64,[(.int .i64 26)],(.int .i64 14),none⟩
theorem ZmN:Zaf Try.prog aw118.f aw118.args aw118.r aw118.fr:=Zaa (n:=100000) (l:=[aw72,aw73,aw74,aw75,aw76,aw77,aw78,aw79,aw80,aw81,aw82]) follows Zac ⟨ZaD,⟨ZaH,⟨ZaO,⟨ZaW,⟨ZaV,⟨Zba,⟨Zbl,⟨ZbM,⟨Zb3,⟨ZcV,⟨ZdO,trivial⟩⟩⟩⟩⟩⟩⟩⟩⟩⟩⟩ (by kernel_rfl)
def aw119:Fact:=⟨64,[(.int .i64 24)],(.int .i64 10),none⟩
theorem Zn7:Zaf Try.prog aw119.f aw119.args aw119.r aw119.fr:=Zaa (n:=100000) (l:=[aw72,aw73,aw74,aw75,aw76,aw77,aw78,aw79,aw80]) follows Zac ⟨ZaD,⟨ZaH,⟨ZaO,⟨ZaW,⟨ZaV,⟨Zba,⟨Zbl,⟨ZbM,⟨Zb3,trivial⟩⟩⟩⟩⟩⟩⟩⟩⟩ (by kernel_rfl)
def aw120:Fact:=⟨64,[(.int .i64 22)],(.int .i64 11),none⟩
theorem Zm4:Zaf Try.prog aw120.f aw120.args aw120.r aw120.fr:=Zaa (n:=100000) (l:=[aw72,aw73,aw74,aw75,aw76,aw77,aw78]) follows Zac ⟨ZaD,⟨ZaH,⟨ZaO,⟨ZaW,⟨ZaV,⟨Zba,⟨Zbl,trivial⟩⟩⟩⟩⟩⟩⟩ (by kernel_rfl)
def aw121:Fact:=⟨64,[(.int .i64 20)],(.int .i64 6),none⟩
theorem ZoD:Zaf Try.prog aw121.f aw121.args aw121.r aw121.fr:=Zaa (n:=100000) (l:=[aw72,aw73,aw74,aw75,aw76]) follows Zac ⟨ZaD,⟨ZaH,⟨ZaO,⟨ZaW,⟨ZaV,trivial⟩⟩⟩⟩⟩ (by kernel_rfl)
def aw122:Fact:=⟨64,[(.int .i64 18)],(.int .i64 8),none⟩
theorem Znj:Zaf Try.prog aw122.f aw122.args aw122.r aw122.fr:=Zaa (n:=100000) (l:=[aw72,aw73,aw74]) follows Zac ⟨ZaD,⟨ZaH,⟨ZaO,trivial⟩⟩⟩ (by kernel_rfl)
def aw123:Fact:=⟨64,[(.int .i64 16)],(.int .i64 2),none⟩
theorem ZnV:Zaf Try.prog aw123.f aw123.args aw123.r aw123.fr:=Zaa (n:=100000) (l:=[aw72]) follows Zac ⟨ZaD,trivial⟩ (by kernel_rfl)
def aw124:Fact:=⟨74,[(.int .i64 1),(.int .i64 3)],(.int .i64 3),none⟩
theorem Zns:Zaf Try.prog aw124.f aw124.args aw124.r aw124.fr:=Zaa (n:=100000) (l:=[]) follows Zac trivial (by kernel_rfl)
def aw125:Fact:=⟨74,[(.int .i64 0),(.int .i64 4)],(.int .i64 0),none⟩
theorem Zow:Zaf Try.prog aw125.f aw125.args aw125.r aw125.fr:=Zaa (n:=100000) (l:=[]) follows Zac trivial (by kernel_rfl)
def aw126:Fact:=⟨73,[(.agg (.ints .i64 [0,0,0,0,0,0,0,0,0,0,0,0,1,0,0])),(.int .i64 2)],(.int .i64 3),none⟩
theorem Zn4:Zaf Try.prog aw126.f aw126.args aw126.r aw126.fr:=Zaa (n:=100000) (l:=[aw117,aw89,aw118,aw93,aw119,aw97,aw120,aw101,aw121,aw105,aw122,aw109,aw123,aw113,aw86,aw87,aw90,aw91,aw94,aw95,aw98,aw99,aw102,aw103,aw106,aw124,aw110,aw125,aw114,aw115]) follows Zac ⟨ZmM,⟨Zk8,⟨ZmN,⟨ZhX,⟨Zn7,⟨ZlD,⟨Zm4,⟨Zi9,⟨ZoD,⟨Zjb,⟨Znj,⟨Zjd,⟨ZnV,⟨ZiR,⟨Zln,⟨Zih,⟨Zlf,⟨Zld,⟨ZlG,⟨Zlt,⟨Zlb,⟨Zmh,⟨ZiY,⟨ZjF,⟨Zjo,⟨Zns,⟨Zgo,⟨Zow,⟨Zgt,⟨Zjk,trivial⟩⟩⟩⟩⟩⟩⟩⟩⟩⟩⟩⟩⟩⟩⟩⟩⟩⟩⟩⟩⟩⟩⟩⟩⟩⟩⟩⟩⟩⟩ (by kernel_rfl)
def aw127:Fact:=⟨63,[(.agg (.ints .i64 [0,0,0,0,0,0,0,0,0,0,0,0,1,0,0])),(.int .i64 1)],(.row 0 0),(some ⟨3,1,(.ints .i64 [4,3])⟩)⟩
theorem Zne:Zaf Try.prog aw127.f aw127.args aw127.r aw127.fr:=Zaa (n:=100000) (l:=[aw116,aw126]) follows Zac ⟨ZmF,⟨Zn4,trivial⟩⟩ (by kernel_rfl)
def aw128:Fact:=⟨76,[(.list (.ints .i64 [2,1,4])),(.eptr (.int .i64 0) 0)],(.bool true),none⟩
theorem Zm2:Zaf Try.prog aw128.f aw128.args aw128.r aw128.fr:=Zaa (n:=100000) (l:=[]) follows Zac trivial (by kernel_rfl)
def aw129:Fact:=⟨75,[(.list (.gen [(.list (.ints .i64 [2,1,4])),(.list (.ints .i64 [4,1,3]))])),(.fn 76 [(.eptr (.int .i64 0) 0)])],(.int .i64 0),none⟩
theorem Zoo:Zaf Try.prog aw129.f aw129.args aw129.r aw129.fr:=Zaa (n:=100000) (l:=[aw128]) follows Zac ⟨Zm2,trivial⟩ (by kernel_rfl)
def aw130:Fact:=⟨74,[(.int .i64 2),(.int .i64 1)],(.int .i64 2),none⟩
theorem Zmz:Zaf Try.prog aw130.f aw130.args aw130.r aw130.fr:=Zaa (n:=100000) (l:=[]) follows Zac trivial (by kernel_rfl)
def aw131:Fact:=⟨74,[(.int .i64 2),(.int .i64 3)],(.int .i64 6),none⟩
theorem ZmU:Zaf Try.prog aw131.f aw131.args aw131.r aw131.fr:=Zaa (n:=100000) (l:=[]) follows Zac trivial (by kernel_rfl)
def aw132:Fact:=⟨74,[(.int .i64 2),(.int .i64 4)],(.int .i64 8),none⟩
theorem Zjm:Zaf Try.prog aw132.f aw132.args aw132.r aw132.fr:=Zaa (n:=100000) (l:=[]) follows Zac trivial (by kernel_rfl)
def aw133:Fact:=⟨74,[(.int .i64 2),(.int .i64 5)],(.int .i64 10),none⟩
theorem Znd:Zaf Try.prog aw133.f aw133.args aw133.r aw133.fr:=Zaa (n:=100000) (l:=[]) follows Zac trivial (by kernel_rfl)
def aw134:Fact:=⟨74,[(.int .i64 2),(.int .i64 6)],(.int .i64 12),none⟩
theorem ZnD:Zaf Try.prog aw134.f aw134.args aw134.r aw134.fr:=Zaa (n:=100000) (l:=[]) follows Zac trivial (by kernel_rfl)
def aw135:Fact:=⟨74,[(.int .i64 2),(.int .i64 7)],(.int .i64 14),none⟩
theorem ZmY:Zaf Try.prog aw135.f aw135.args aw135.r aw135.fr:=Zaa (n:=100000) (l:=[]) follows Zac trivial (by kernel_rfl)
def aw136:Fact:=⟨74,[(.int .i64 2),(.int .i64 8)],(.int .i64 3),none⟩
theorem Znp:Zaf Try.prog aw136.f aw136.args aw136.r aw136.fr:=Zaa (n:=100000) (l:=[]) follows Zac trivial (by kernel_rfl)
def aw137:Fact:=⟨74,[(.int .i64 2),(.int .i64 9)],(.int .i64 1),none⟩
theorem ZjP:Zaf Try.prog aw137.f aw137.args aw137.r aw137.fr:=Zaa (n:=100000) (l:=[]) follows Zac trivial (by kernel_rfl)
def aw138:Fact:=⟨77,[(.int .i64 2)],(.int .i64 9),none⟩
theorem Zm0:Zaf Try.prog aw138.f aw138.args aw138.r aw138.fr:=Zaa (n:=100000) (l:=[aw130,aw73,aw131,aw132,aw133,aw134,aw135,aw136,aw137]) follows Zac ⟨Zmz,⟨ZaH,⟨ZmU,⟨Zjm,⟨Znd,⟨ZnD,⟨ZmY,⟨Znp,⟨ZjP,trivial⟩⟩⟩⟩⟩⟩⟩⟩⟩ (by kernel_rfl)
def aw139:Fact:=⟨74,[(.int .i64 1),(.int .i64 9)],(.int .i64 9),none⟩
theorem ZoJ:Zaf Try.prog aw139.f aw139.args aw139.r aw139.fr:=Zaa (n:=100000) (l:=[]) follows Zac trivial (by kernel_rfl)
def aw140:Fact:=⟨74,[(.int .i64 4),(.int .i64 9)],(.int .i64 2),none⟩
theorem Zoe:Zaf Try.prog aw140.f aw140.args aw140.r aw140.fr:=Zaa (n:=100000) (l:=[]) follows Zac trivial (by kernel_rfl)
def aw141:Fact:=⟨74,[(.int .i64 9),(.int .i64 4)],(.int .i64 2),none⟩
theorem Zoc:Zaf Try.prog aw141.f aw141.args aw141.r aw141.fr:=Zaa (n:=100000) (l:=[]) follows Zac trivial (by kernel_rfl)
def aw142:Fact:=⟨76,[(.list (.ints .i64 [0,3,11])),(.eptr (.int .i64 1) 0)],(.bool true),none⟩
theorem Znr:Zaf Try.prog aw142.f aw142.args aw142.r aw142.fr:=Zaa (n:=100000) (l:=[]) follows Zac trivial (by kernel_rfl)
def aw143:Fact:=⟨75,[(.list (.gen [(.list (.ints .i64 [0,3,11]))])),(.fn 76 [(.eptr (.int .i64 1) 0)])],(.int .i64 0),none⟩
theorem ZoO:Zaf Try.prog aw143.f aw143.args aw143.r aw143.fr:=Zaa (n:=100000) (l:=[aw142]) follows Zac ⟨Znr,trivial⟩ (by kernel_rfl)
def aw144:Fact:=⟨74,[(.int .i64 3),(.int .i64 1)],(.int .i64 3),none⟩
theorem Znt:Zaf Try.prog aw144.f aw144.args aw144.r aw144.fr:=Zaa (n:=100000) (l:=[]) follows Zac trivial (by kernel_rfl)
def aw145:Fact:=⟨74,[(.int .i64 3),(.int .i64 3)],(.int .i64 5),none⟩
theorem ZoA:Zaf Try.prog aw145.f aw145.args aw145.r aw145.fr:=Zaa (n:=100000) (l:=[]) follows Zac trivial (by kernel_rfl)
def aw146:Fact:=⟨74,[(.int .i64 3),(.int .i64 4)],(.int .i64 12),none⟩
theorem ZmG:Zaf Try.prog aw146.f aw146.args aw146.r aw146.fr:=Zaa (n:=100000) (l:=[]) follows Zac trivial (by kernel_rfl)
def aw147:Fact:=⟨74,[(.int .i64 3),(.int .i64 5)],(.int .i64 15),none⟩
theorem ZnH:Zaf Try.prog aw147.f aw147.args aw147.r aw147.fr:=Zaa (n:=100000) (l:=[]) follows Zac trivial (by kernel_rfl)
def aw148:Fact:=⟨74,[(.int .i64 3),(.int .i64 6)],(.int .i64 10),none⟩
theorem Zn3:Zaf Try.prog aw148.f aw148.args aw148.r aw148.fr:=Zaa (n:=100000) (l:=[]) follows Zac trivial (by kernel_rfl)
def aw149:Fact:=⟨74,[(.int .i64 3),(.int .i64 7)],(.int .i64 9),none⟩
theorem ZmW:Zaf Try.prog aw149.f aw149.args aw149.r aw149.fr:=Zaa (n:=100000) (l:=[]) follows Zac trivial (by kernel_rfl)
def aw150:Fact:=⟨74,[(.int .i64 3),(.int .i64 8)],(.int .i64 11),none⟩
theorem ZmJ:Zaf Try.prog aw150.f aw150.args aw150.r aw150.fr:=Zaa (n:=100000) (l:=[]) follows Zac trivial (by kernel_rfl)
def aw151:Fact:=⟨74,[(.int .i64 3),(.int .i64 9)],(.int .i64 8),none⟩
theorem ZnO:Zaf Try.prog aw151.f aw151.args aw151.r aw151.fr:=Zaa (n:=100000) (l:=[]) follows Zac trivial (by kernel_rfl)
def aw152:Fact:=⟨74,[(.int .i64 3),(.int .i64 10)],(.int .i64 13),none⟩
theorem Zoa:Zaf Try.prog aw152.f aw152.args aw152.r aw152.fr:=Zaa (n:=100000) (l:=[]) follows Zac trivial (by kernel_rfl)
def aw153:Fact:=⟨74,[(.int .i64 3),(.int .i64 11)],(.int .i64 14),none⟩
theorem Zof:Zaf Try.prog aw153.f aw153.args aw153.r aw153.fr:=Zaa (n:=100000) (l:=[]) follows Zac trivial (by kernel_rfl)
def aw154:Fact:=⟨74,[(.int .i64 3),(.int .i64 12)],(.int .i64 7),none⟩
theorem ZmL:Zaf Try.prog aw154.f aw154.args aw154.r aw154.fr:=Zaa (n:=100000) (l:=[]) follows Zac trivial (by kernel_rfl)
def aw155:Fact:=⟨74,[(.int .i64 3),(.int .i64 13)],(.int .i64 4),none⟩
theorem Zov:Zaf Try.prog aw155.f aw155.args aw155.r aw155.fr:=Zaa (n:=100000) (l:=[]) follows Zac trivial (by kernel_rfl)
def aw156:Fact:=⟨74,[(.int .i64 3),(.int .i64 14)],(.int .i64 1),none⟩
theorem Zi7:Zaf Try.prog aw156.f aw156.args aw156.r aw156.fr:=Zaa (n:=100000) (l:=[]) follows Zac trivial (by kernel_rfl)
def aw157:Fact:=⟨77,[(.int .i64 3)],(.int .i64 14),none⟩
theorem ZmD:Zaf Try.prog aw157.f aw157.args aw157.r aw157.fr:=Zaa (n:=100000) (l:=[aw144,aw76,aw145,aw146,aw147,aw148,aw149,aw150,aw151,aw152,aw153,aw154,aw155,aw156]) follows Zac ⟨Znt,⟨ZaV,⟨ZoA,⟨ZmG,⟨ZnH,⟨Zn3,⟨ZmW,⟨ZmJ,⟨ZnO,⟨Zoa,⟨Zof,⟨ZmL,⟨Zov,⟨Zi7,trivial⟩⟩⟩⟩⟩⟩⟩⟩⟩⟩⟩⟩⟩⟩ (by kernel_rfl)
def aw158:Fact:=⟨74,[(.int .i64 11),(.int .i64 14)],(.int .i64 8),none⟩
theorem ZmP:Zaf Try.prog aw158.f aw158.args aw158.r aw158.fr:=Zaa (n:=100000) (l:=[]) follows Zac trivial (by kernel_rfl)
def aw159:Fact:=⟨74,[(.int .i64 8),(.int .i64 9)],(.int .i64 4),none⟩
theorem ZmO:Zaf Try.prog aw159.f aw159.args aw159.r aw159.fr:=Zaa (n:=100000) (l:=[]) follows Zac trivial (by kernel_rfl)
def aw160:Fact:=⟨49,[(.agg (.ints .i64 [0,0,0,0,0,0,0,0,0,0,0,0,1,0,0])),(.int .i64 1),(.list (.ints .i64 [13,14]))],(.tup [(.agg (.ints .i64 [0,0,0,0,0,0,0,0,0,0,0,0,1,6,8])),(.bool true)]),none⟩
theorem ZnA:Zaf Try.prog aw160.f aw160.args aw160.r aw160.fr:=Zaa (n:=100000) (l:=[aw127,aw112,aw114,aw110,aw129,aw138,aw137,aw139,aw140,aw111,aw141,aw132,aw143,aw157,aw93,aw156,aw158,aw87,aw159]) follows Zac ⟨Zne,⟨ZjB,⟨Zgt,⟨Zgo,⟨Zoo,⟨Zm0,⟨ZjP,⟨ZoJ,⟨Zoe,⟨ZiP,⟨Zoc,⟨Zjm,⟨ZoO,⟨ZmD,⟨ZhX,⟨Zi7,⟨ZmP,⟨Zih,⟨ZmO,trivial⟩⟩⟩⟩⟩⟩⟩⟩⟩⟩⟩⟩⟩⟩⟩⟩⟩⟩⟩ (by kernel_rfl)
def aw161:Fact:=⟨32,[(.int .i64 1),(.list (.ints .i64 [0,0,0,0,0,0,0,0,0,0,0,0,1]))],(.agg (.ints .i64 [0,0,0,0,0,0,0,0,0,0,0,0,1,6,8])),none⟩
theorem ZmV:Zaf Try.prog aw161.f aw161.args aw161.r aw161.fr:=Zaa (n:=100000) (l:=[aw160]) follows Zac ⟨ZnA,trivial⟩ (by kernel_rfl)
def aw162:Fact:=⟨19,[],(.agg (.gen [(.int .i64 3),(.list (.gen [(.list (.ints .i64 [0,1])),(.list (.ints .i64 [1,2]))]))])),none⟩
theorem Zox:Zaf Try.prog aw162.f aw162.args aw162.r aw162.fr:=Zaa (n:=100000) (l:=[]) follows Zac trivial (by kernel_rfl)
def aw163:Fact:=⟨35,[(.int .i64 3),(.int .i64 1),(.int .i64 24)],(.bool true),none⟩
theorem Zm8:Zaf Try.prog aw163.f aw163.args aw163.r aw163.fr:=Zaa (n:=100000) (l:=[]) follows Zac trivial (by kernel_rfl)
def aw164:Fact:=⟨35,[(.int .i64 0),(.int .i64 0),(.int .i64 2)],(.bool true),none⟩
theorem Znw:Zaf Try.prog aw164.f aw164.args aw164.r aw164.fr:=Zaa (n:=100000) (l:=[]) follows Zac trivial (by kernel_rfl)
def aw165:Fact:=⟨34,[(.bool true),(.int .i64 6)],(.int .i64 0),none⟩
theorem Zno:Zaf Try.prog aw165.f aw165.args aw165.r aw165.fr:=Zaa (n:=100000) (l:=[]) follows Zac trivial (by kernel_rfl)
def aw166:Fact:=⟨34,[(.bool true),(.int .i64 9)],(.int .i64 0),none⟩
theorem Zm5:Zaf Try.prog aw166.f aw166.args aw166.r aw166.fr:=Zaa (n:=100000) (l:=[]) follows Zac trivial (by kernel_rfl)
def aw167:Fact:=⟨35,[(.int .i64 1),(.int .i64 0),(.int .i64 2)],(.bool true),none⟩
theorem ZoC:Zaf Try.prog aw167.f aw167.args aw167.r aw167.fr:=Zaa (n:=100000) (l:=[]) follows Zac trivial (by kernel_rfl)
def aw168:Fact:=⟨35,[(.int .i64 2),(.int .i64 0),(.int .i64 2)],(.bool true),none⟩
theorem ZnG:Zaf Try.prog aw168.f aw168.args aw168.r aw168.fr:=Zaa (n:=100000) (l:=[]) follows Zac trivial (by kernel_rfl)
def aw169:Fact:=⟨66,[(.agg (.gen [(.int .i64 3),(.list (.gen [(.list (.ints .i64 [0,1])),(.list (.ints .i64 [1,2]))]))]))],(.tup [(.int .i64 0),(.int .i64 0)]),none⟩
theorem Znn:Zaf Try.prog aw169.f aw169.args aw169.r aw169.fr:=Zaa (n:=100000) (l:=[aw163,aw9,aw13,aw70,aw164,aw165,aw166,aw167,aw168]) follows Zac ⟨Zm8,⟨Ze5,⟨ZlM,⟨Zgm,⟨Znw,⟨Zno,⟨Zm5,⟨ZoC,⟨ZnG,trivial⟩⟩⟩⟩⟩⟩⟩⟩⟩ (by kernel_rfl)
def aw170:Fact:=⟨50,[(.agg (.gen [(.int .i64 3),(.list (.gen [(.list (.ints .i64 [0,1])),(.list (.ints .i64 [1,2]))]))]))],(.int .i64 0),none⟩
theorem ZnK:Zaf Try.prog aw170.f aw170.args aw170.r aw170.fr:=Zaa (n:=100000) (l:=[aw169]) follows Zac ⟨Znn,trivial⟩ (by kernel_rfl)
def aw171:Fact:=⟨35,[(.int .i64 1),(.int .i64 0),(.int .i64 1)],(.bool true),none⟩
theorem Zm6:Zaf Try.prog aw171.f aw171.args aw171.r aw171.fr:=Zaa (n:=100000) (l:=[]) follows Zac trivial (by kernel_rfl)
def aw172:Fact:=⟨57,[(.int .i64 1),(.eptr (.int .i64 0) 0),(.eptr (.int .i64 1) 0)],(.bool false),none⟩
theorem Znb:Zaf Try.prog aw172.f aw172.args aw172.r aw172.fr:=Zaa (n:=100000) (l:=[aw171]) follows Zac ⟨Zm6,trivial⟩ (by kernel_rfl)
def aw173:Fact:=⟨35,[(.int .i64 0),(.int .i64 0),(.int .i64 1)],(.bool true),none⟩
theorem ZoI:Zaf Try.prog aw173.f aw173.args aw173.r aw173.fr:=Zaa (n:=100000) (l:=[]) follows Zac trivial (by kernel_rfl)
def aw174:Fact:=⟨57,[(.int .i64 0),(.eptr (.int .i64 0) 0),(.eptr (.int .i64 1) 0)],(.bool false),none⟩
theorem ZoG:Zaf Try.prog aw174.f aw174.args aw174.r aw174.fr:=Zaa (n:=100000) (l:=[aw173]) follows Zac ⟨ZoI,trivial⟩ (by kernel_rfl)
def aw175:Fact:=⟨72,[(.list (.ints .i64 [1,0,0])),(.fn 57 [(.eptr (.int .i64 0) 0),(.eptr (.int .i64 1) 0)])],(.int .i64 (-1)),none⟩
theorem ZnN:Zaf Try.prog aw175.f aw175.args aw175.r aw175.fr:=Zaa (n:=100000) (l:=[aw172,aw174]) follows Zac ⟨Znb,⟨ZoG,trivial⟩⟩ (by kernel_rfl)
def aw176:Fact:=⟨56,[(.list (.ints .i64 [1,0,0])),(.fn 57 [(.eptr (.int .i64 0) 0),(.eptr (.int .i64 1) 0)])],(.bool false),none⟩
theorem ZmT:Zaf Try.prog aw176.f aw176.args aw176.r aw176.fr:=Zaa (n:=100000) (l:=[aw175]) follows Zac ⟨ZnN,trivial⟩ (by kernel_rfl)
def aw177:Fact:=⟨45,[(.list (.ints .i64 [1,0,0])),(.int .i64 0),(.int .i64 1)],(.int .i64 0),none⟩
theorem Zmy:Zaf Try.prog aw177.f aw177.args aw177.r aw177.fr:=Zaa (n:=100000) (l:=[aw176,aw9]) follows Zac ⟨ZmT,⟨Ze5,trivial⟩⟩ (by kernel_rfl)
def aw178:Fact:=⟨33,[(.agg (.gen [(.int .i64 3),(.list (.gen [(.list (.ints .i64 [0,1])),(.list (.ints .i64 [1,2]))]))])),(.list (.ints .i64 [1,0,0]))],(.int .i64 0),none⟩
theorem Zoz:Zaf Try.prog aw178.f aw178.args aw178.r aw178.fr:=Zaa (n:=100000) (l:=[aw170,aw12,aw177,aw21]) follows Zac ⟨ZnK,⟨ZiD,⟨Zmy,⟨Zlx,trivial⟩⟩⟩⟩ (by kernel_rfl)
def aw179:Fact:=⟨35,[(.int .i64 5),(.int .i64 0),(.int .i64 30)],(.bool true),none⟩
theorem ZnX:Zaf Try.prog aw179.f aw179.args aw179.r aw179.fr:=Zaa (n:=100000) (l:=[]) follows Zac trivial (by kernel_rfl)
def aw180:Fact:=⟨36,[(.list (.ints .i64 [1,0,0]))],(.row 0 0),(some ⟨3,1,(.ints .i64 [1,0,0])⟩)⟩
theorem ZjC:Zaf Try.prog aw180.f aw180.args aw180.r aw180.fr:=ZjW _ (by decide)
def aw181:Fact:=⟨37,[(.agg (.gen [(.int .i64 3),(.list (.gen [(.list (.ints .i64 [0,1])),(.list (.ints .i64 [1,2]))]))])),(.list (.ints .i64 [1,0,0]))],(.row 0 0),(some ⟨3,1,(.ints .i64 [0])⟩)⟩
theorem ZiZ:Zaf Try.prog aw181.f aw181.args aw181.r aw181.fr:=Zaa (n:=100000) (l:=[]) follows Zac trivial (by kernel_rfl)
def aw182:Fact:=⟨67,[(.list (.ints .i64 [0])),(.int .i64 0)],(.int .i64 0),none⟩
theorem Zn2:Zaf Try.prog aw182.f aw182.args aw182.r aw182.fr:=Zaa (n:=100000) (l:=[]) follows Zac trivial (by kernel_rfl)
def aw183:Fact:=⟨51,[(.list (.ints .i64 [0])),(.int .i64 0)],(.bool true),none⟩
theorem ZnW:Zaf Try.prog aw183.f aw183.args aw183.r aw183.fr:=Zaa (n:=100000) (l:=[aw182]) follows Zac ⟨Zn2,trivial⟩ (by kernel_rfl)
def aw184:Fact:=⟨67,[(.list (.ints .i64 [0])),(.int .i64 1)],(.int .i64 (-1)),none⟩
theorem Zm7:Zaf Try.prog aw184.f aw184.args aw184.r aw184.fr:=Zaa (n:=100000) (l:=[]) follows Zac trivial (by kernel_rfl)
def aw185:Fact:=⟨51,[(.list (.ints .i64 [0])),(.int .i64 1)],(.bool false),none⟩
theorem Zm3:Zaf Try.prog aw185.f aw185.args aw185.r aw185.fr:=Zaa (n:=100000) (l:=[aw184]) follows Zac ⟨Zm7,trivial⟩ (by kernel_rfl)
def aw186:Fact:=⟨38,[(.agg (.gen [(.int .i64 3),(.list (.gen [(.list (.ints .i64 [0,1])),(.list (.ints .i64 [1,2]))]))])),(.list (.ints .i64 [1,0,0]))],(.row 0 0),(some ⟨3,1,(.ints .i64 [0,0,0])⟩)⟩
theorem Zoh:Zaf Try.prog aw186.f aw186.args aw186.r aw186.fr:=Zaa (n:=100000) (l:=[aw181,aw183,aw185,aw180]) follows Zac ⟨ZiZ,⟨ZnW,⟨Zm3,⟨ZjC,trivial⟩⟩⟩⟩ (by kernel_rfl)
def aw187:Fact:=⟨37,[(.agg (.gen [(.int .i64 3),(.list (.gen [(.list (.ints .i64 [0,1])),(.list (.ints .i64 [1,2]))]))])),(.list (.ints .i64 [0,0,0]))], .nils,none⟩
theorem Znv:Zaf Try.prog aw187.f aw187.args aw187.r aw187.fr:=Zaa (n:=100000) (l:=[]) follows Zac trivial (by kernel_rfl)
def aw188:Fact:=⟨18,[(.agg (.gen [(.int .i64 3),(.list (.gen [(.list (.ints .i64 [0,1])),(.list (.ints .i64 [1,2]))]))])),(.list (.ints .i64 [1,0,0])),(.int .i64 5)],(.tup [(.row 0 0),(.int .i64 1),(.int .i64 0)]),(some ⟨3,1,(.ints .i64 [0,0,0])⟩)⟩
theorem Zn6:Zaf Try.prog aw188.f aw188.args aw188.r aw188.fr:=Zaa (n:=100000) (l:=[aw178,aw179,aw9,aw70,aw180,aw181,aw186,aw187]) follows Zac ⟨Zoz,⟨ZnX,⟨Ze5,⟨Zgm,⟨ZjC,⟨ZiZ,⟨Zoh,⟨Znv,trivial⟩⟩⟩⟩⟩⟩⟩⟩ (by kernel_rfl)
def aw189:Fact:=⟨41,[(.list (.ints .i64 [100000])),(.int .i64 4)],(.row 0 0),(some ⟨3,1,(.ints .i64 [100000,100000,100000,100000])⟩)⟩
theorem Zng:Zaf Try.prog aw189.f aw189.args aw189.r aw189.fr:=Zaa (n:=100000) (l:=[aw26]) follows Zac ⟨Zll,trivial⟩ (by kernel_rfl)
def aw190:Fact:=⟨39,[(.int .i64 0),(.int .i64 1),(.eptr (.agg (.gen [(.int .i64 2),(.int .i64 7),(.int .i64 5)])) 0)],(.tup [(.int .i64 2),(.int .i64 2)]),none⟩
theorem ZoN:Zaf Try.prog aw190.f aw190.args aw190.r aw190.fr:=Zaa (n:=100000) (l:=[aw47]) follows Zac ⟨Zh5,trivial⟩ (by kernel_rfl)
def aw191:Fact:=⟨39,[(.int .i64 1),(.int .i64 0),(.eptr (.agg (.gen [(.int .i64 2),(.int .i64 7),(.int .i64 5)])) 0)],(.tup [(.int .i64 0),(.int .i64 2)]),none⟩
theorem Znf:Zaf Try.prog aw191.f aw191.args aw191.r aw191.fr:=Zaa (n:=100000) (l:=[aw35]) follows Zac ⟨Zip,trivial⟩ (by kernel_rfl)
def aw192:Fact:=⟨39,[(.int .i64 1),(.int .i64 1),(.eptr (.agg (.gen [(.int .i64 2),(.int .i64 7),(.int .i64 5)])) 0)],(.tup [(.int .i64 2),(.int .i64 0)]),none⟩
theorem ZnQ:Zaf Try.prog aw192.f aw192.args aw192.r aw192.fr:=Zaa (n:=100000) (l:=[aw50]) follows Zac ⟨Zie,trivial⟩ (by kernel_rfl)
def aw193:Fact:=⟨39,[(.int .i64 2),(.int .i64 0),(.eptr (.agg (.gen [(.int .i64 2),(.int .i64 7),(.int .i64 5)])) 0)],(.tup [(.int .i64 1),(.int .i64 1)]),none⟩
theorem ZmE:Zaf Try.prog aw193.f aw193.args aw193.r aw193.fr:=Zaa (n:=100000) (l:=[aw39]) follows Zac ⟨ZhW,trivial⟩ (by kernel_rfl)
def aw194:Fact:=⟨39,[(.int .i64 2),(.int .i64 1),(.eptr (.agg (.gen [(.int .i64 2),(.int .i64 7),(.int .i64 5)])) 0)],(.tup [(.int .i64 3),(.int .i64 1)]),none⟩
theorem ZnT:Zaf Try.prog aw194.f aw194.args aw194.r aw194.fr:=Zaa (n:=100000) (l:=[aw53]) follows Zac ⟨Zle,trivial⟩ (by kernel_rfl)
def aw195:Fact:=⟨39,[(.int .i64 3),(.int .i64 0),(.eptr (.agg (.gen [(.int .i64 2),(.int .i64 7),(.int .i64 5)])) 0)],(.tup [(.int .i64 1),(.int .i64 1)]),none⟩
theorem ZmR:Zaf Try.prog aw195.f aw195.args aw195.r aw195.fr:=Zaa (n:=100000) (l:=[aw42]) follows Zac ⟨ZlV,trivial⟩ (by kernel_rfl)
def aw196:Fact:=⟨39,[(.int .i64 3),(.int .i64 1),(.eptr (.agg (.gen [(.int .i64 2),(.int .i64 7),(.int .i64 5)])) 0)],(.tup [(.int .i64 3),(.int .i64 1)]),none⟩
theorem Zop:Zaf Try.prog aw196.f aw196.args aw196.r aw196.fr:=Zaa (n:=100000) (l:=[aw56]) follows Zac ⟨Zl0,trivial⟩ (by kernel_rfl)
def aw197:Fact:=⟨20,[(.agg (.gen [(.int .i64 2),(.int .i64 7),(.int .i64 5)]))],(.tup [(.int .i64 5),(.int .i64 0)]),none⟩
theorem Zoq:Zaf Try.prog aw197.f aw197.args aw197.r aw197.fr:=Zaa (n:=100000) (l:=[aw11,aw189,aw190,aw191,aw192,aw193,aw194,aw195,aw196]) follows Zac ⟨ZkX,⟨Zng,⟨ZoN,⟨Znf,⟨ZnQ,⟨ZmE,⟨ZnT,⟨ZmR,⟨Zop,trivial⟩⟩⟩⟩⟩⟩⟩⟩⟩ (by kernel_rfl)
def aw198:Fact:=⟨11,[(.list (.ints .i64 [1,0])),(.list (.ints .i64 [1,0]))],(.bool true),none⟩
theorem Znk:Zaf Try.prog aw198.f aw198.args aw198.r aw198.fr:=Zaa (n:=100000) (l:=[]) follows Zac trivial (by kernel_rfl)
def aw199:Fact:=⟨11,[(.list (.ints .i64 [0,0,0])),(.list (.ints .i64 [0,0,0]))],(.bool true),none⟩
theorem Zor:Zaf Try.prog aw199.f aw199.args aw199.r aw199.fr:=Zaa (n:=100000) (l:=[]) follows Zac trivial (by kernel_rfl)
def aw200:Fact:=⟨4,[],(.bool true),none⟩
theorem ZoB:Zaf Try.prog aw200.f aw200.args aw200.r aw200.fr:=Zaa (n:=100000) (l:=[aw0,aw1,aw59,aw60,aw62,aw71,aw70,aw161,aw162,aw188,aw197,aw198,aw199]) follows Zac ⟨Zrq,⟨ZrC,⟨Zqa,⟨Zp7,⟨Zp5,⟨ZpV,⟨Zgm,⟨ZmV,⟨Zox,⟨Zn6,⟨Zoq,⟨Znk,⟨Zor,trivial⟩⟩⟩⟩⟩⟩⟩⟩⟩⟩⟩⟩⟩ (by kernel_rfl)
end Go.Proofs.Ytbbemleognkdhaa
/- Contracts as a list. No condition. -/
namespace Go.Proofs.Ytbbemleognkdhaa
def ZhE(xs:List Int):Int:=if xs.all (fun x=>Zaw x 0 15)=true then 0 else 2
theorem ZmH(xs:List Int)(x:Int):ZbW (xs++[x])=ZbW xs++[ZhF x]:=by simp[Zey]
theorem Zig(xs:List Int):(ZbW xs).length=xs.length:=by simp[Zey]
theorem Zql:ZbW []=[]:=Zey []
theorem ZqI{x:Int}(h:Zaw x 0 15=false):ZhF x=63:=by
 unfold ZhF;rw[if_neg];simp[Zaw]at h;omega
theorem Zgp{x:Int}(h:Zaw x 0 15=true):0≤x∧x≤15∧(digs.drop x.toNat).take (x.toNat+1-x.toNat)=[ZhF x]:=by
 have hx:0≤x∧x≤15:=by simpa[Zaw]using h
 refine⟨hx.1,hx.2,?_⟩
 have hl:x.toNat<digs.length:=by simp[digs];omega
 rw[show x.toNat+1-x.toNat=1 by omega,List.drop_eq_getElem_cons hl]
 unfold ZhF
 rw[if_pos hx]
 show [digs[x.toNat]]=[digs.getD x.toNat 0]
 rw[List.getD_eq_getElem?_getD,List.getElem?_eq_getElem hl];rfl
section
variable {C:Ctx}(hC:C.P=Try.prog)(xs:List Int)(hl:xs.length≤1000000)
include hC hl
theorem ZjO:∀m k:Nat,k+m=xs.length→Ev C (ZeA xs k) (ZdA xs k) (ZiW 12 (.int .i64 (ZhE (xs.drop k))) none)
 |0,k,hk=>tgo hC Zin ZfX (by
  rw[List.drop_of_length_le (by omega)]
  simp[ZcE,show ¬(k:Int)<xs.length by omega,ZhE])
 |m+1,k,hk=>by
  have ih:=ZjO m (k+1) (by omega)
  have e:ZhE (xs.drop k)=if Zaw (xs.getD k 0) 0 15=true then ZhE (xs.drop (k+1))else 2:=by
   rw[Zk0 (show k<xs.length by omega)]
   unfold ZhE
   cases hw:Zaw (xs.getD k 0) 0 15<;>simp[-List.getD_eq_getElem?_getD,List.all_cons,hw]
  rw[e]
  have hlt:(k:Int)<xs.length:=by omega
  have hlt2:k<xs.length:=by omega
  refine tgo hC Zin ZfX ?_
  cases hw:Zaw (xs.getD k 0) 0 15 with
  |true=>
   simp[-List.getD_eq_getElem?_getD,ZcE,hlt,hlt2,hw]
   exact⟨by omega,by simpa using ih⟩
  |false=>simp[-List.getD_eq_getElem?_getD,ZcE,hlt,hlt2,hw]
theorem ZjK:∀m k:Nat,k+m=xs.length→Ev C (ZeJ xs (ZbW (xs.take k)) k) (ZdR xs (ZbW (xs.take k)) k) (ZiW 10 (.str (ZbW xs)) none)
 |0,k,hk=>tgo hC Zin ZfJ (by
  rw[List.take_of_length_le (by omega)]
  simp[ZcF,show ¬(k:Int)<xs.length by omega])
 |m+1,k,hk=>by
  have ih:=ZjK m (k+1) (by omega)
  have hlt:(k:Int)<xs.length:=by omega
  have hlt2:k<xs.length:=by omega
  rw[ZlJ (d:=0) hlt2,ZmH]at ih
  have hfl:(ZbW (xs.take k)).length≤1000000:=by rw[Zig,List.length_take];omega
  refine tgo hC Zin ZfJ ?_
  cases hw:Zaw (xs.getD k 0) 0 15 with
  |true=>
   obtain⟨h0,h1,h2⟩:=Zgp hw
   simp[-List.getD_eq_getElem?_getD,ZcF,hlt,hlt2,hw]
   have hs:sub3 digs (xs.getD k 0).toNat ((xs.getD k 0+1).toNat-(xs.getD k 0).toNat)=[ZhF (xs.getD k 0)]:=by
    rw[show (xs.getD k 0+1).toNat=(xs.getD k 0).toNat+1 by omega];exact h2
   have hd:digs.length=16:=rfl
   rw[hs,hd]
   exact⟨⟨by omega,by simp;omega,by omega,by omega,by omega⟩,by simpa using ih⟩
  |false=>
   rw[ZqI hw]at ih
   simp[-List.getD_eq_getElem?_getD,ZcF,hlt,hlt2,hw]
   exact⟨by omega,by simpa using ih⟩
end
theorem Zos(xs:List Int)(hl:xs.length≤1000000):Zaf Try.prog 12 [.list (.ints .i64 xs)] (.int .i64 (ZhE xs)) none:=
 start (Zpq xs) fun C hC=>tgo hC Zin Ztq (by
  have:=ZjO hC xs hl xs.length 0 (by omega)
  simp[Zru]
  simpa using this)
theorem ZhZ(xs:List Int)(hl:xs.length≤1000000):Zaf Try.prog 10 [.list (.ints .i64 xs)] (.str (ZbW xs)) none:=
 start (ZpB xs) fun C hC=>tgo hC Zin Zuz (by
  have:=ZjK hC xs hl xs.length 0 (by omega)
  simp[Zsd]
  simpa[Zql]using this)
def k12:Ctr:=⟨12,0,fun _ a=>match a with |[.list (.ints .i64 xs)]=>some (decide (xs.length≤1000000), .int .i64 (ZhE xs),none) |_=>none⟩
theorem Zr2:k12.OK Try.prog:=fun pa args r fr h=>by
 simp only[k12]at h
 split at h
 ·simp only[Option.some.injEq,Prod.mk.injEq,decide_eq_true_eq]at h
  obtain⟨h0,rfl,rfl⟩:=h
  exact Zos _ h0
 ·cases h
def k10:Ctr:=⟨10,0,fun _ a=>match a with |[.list (.ints .i64 xs)]=>some (decide (xs.length≤1000000), .str (ZbW xs),none) |_=>none⟩
theorem Zsr:k10.OK Try.prog:=fun pa args r fr h=>by
 simp only[k10]at h
 split at h
 ·simp only[Option.some.injEq,Prod.mk.injEq,decide_eq_true_eq]at h
  obtain⟨h0,rfl,rfl⟩:=h
  exact ZhZ _ h0
 ·cases h
def k4:Ctr:=⟨4,0,fun _ a=>match a with |[]=>some (true, .bool true,none) |_=>none⟩
theorem Ztz:k4.OK Try.prog:=fun pa args r fr h=>by
 simp only[k4]at h
 split at h
 ·cases h
  exact ZoB
 ·cases h
def N4:List Ctr:=[k12,k10,k4]++N3
theorem ZuE:ZaX Try.prog N4:=⟨Zr2,⟨Zsr,⟨Ztz,Zin⟩⟩⟩
end Go.Proofs.Ytbbemleognkdhaa
/- Paths of functions, printed by the explorer (Gx). No condition. -/
namespace Go.Proofs.Ytbbemleognkdhaa
set_option maxRecDepth 100000
set_option linter.unusedVariables false
def ZvI(xs:List Int)(s:List UInt8):AFrame:={ fn:=3,N:=81,env:=[(0,AV.list (.ints .i64 xs)),(1,AV.str s)],todo:=[.code a3.code],defs:=[],rnd:=none,ret:=false,res:=[ARes.tmp 4] }
def f3e(xs:List Int)(s:List UInt8):List AFrame:=[(ZvI xs s)]
theorem Zq6(xs:List Int)(s:List UInt8):ZaG tab 3 [AV.list (.ints .i64 xs),AV.str s]=some (ZvI xs s):=rfl
def ZqW(A:Ar)(K:KT)(F:FT)(xs:List Int)(s:List UInt8):Prop:=rB [!A.not true] (bB (A.not (Zq0 (A.int (A.len xs)) 400)) (F (AV.bool true) (none)) (bB (A.lt 60 (A.int (A.lenS s))) (bB (A.le (A.int (A.lenS s)) 400) (F (AV.bool true) (none)) (bB (A.lt 402 (A.int (A.lenS s))) (F (AV.bool true) (none)) (rB [decide (List.length xs≤1000000),decide (List.length s≤1000000),decide (List.length s≤1000000),decide (List.length xs≤1000000),decide (List.length xs≤1000000)] (bB (A.not (A.eqS (ZbW xs) (ZbW xs))) (False) (bB (A.not (A.eq (ZhG s) (ZhG s))) (False) (rB [decide (List.length (Zfg s)≤1000000)] (bB (A.not (decide (Zfg s=Zfg s))) (False) (rB [decide (List.length xs≤1000000)] (bB (A.not (A.eq (ZhE xs) 0)) (F (AV.bool true) (none)) (bB (A.lt 400 (A.int (A.len xs))) (F (AV.bool true) (none)) (rB [decide (List.length (ZbW xs)≤1000000)] (bB (A.eq (ZhG (ZbW xs)) 0) (rB [decide (List.length (Zfg (ZbW xs))≤1000000)] (F (AV.bool (decide (Zfg (ZbW xs)=xs))) (none))) (False))))))))))))) (bB (A.lt 402 (A.int (A.lenS s))) (F (AV.bool true) (none)) (rB [decide (List.length xs≤1000000),decide (List.length s≤1000000),decide (List.length s≤1000000),decide (List.length xs≤1000000),decide (List.length xs≤1000000)] (bB (A.not (A.eqS (ZbW xs) (ZbW xs))) (False) (bB (A.not (A.eq (ZhG s) (ZhG s))) (False) (rB [decide (List.length (Zfg s)≤1000000)] (bB (A.not (decide (Zfg s=Zfg s))) (False) (rB [decide (List.length xs≤1000000)] (bB (A.not (A.eq (ZhE xs) 0)) (F (AV.bool true) (none)) (bB (A.lt 400 (A.int (A.len xs))) (F (AV.bool true) (none)) (rB [decide (List.length (ZbW xs)≤1000000)] (bB (A.eq (ZhG (ZbW xs)) 0) (rB [decide (List.length (Zfg (ZbW xs))≤1000000)] (F (AV.bool (decide (Zfg (ZbW xs)=xs))) (none))) (False))))))))))))))
theorem Zwx{A:Ar}{K:KT}{F:FT}{M:MT}{xs:List Int}{s:List UInt8} :ZaM A tab N4 3 K F M (.run 10 (.fy (.run 9 (.tf (.ty (.ty (.ty (.run 3 (.ty (.ty (.run 1 (.ty (.ty (.ty (.ty (.run 2 (.ty (.run 5 (.fn))))))))))))))) (.fy (.fy (.fy (.tf (.ty (.ty (.alt [false,true] (.fy (.run 1 (.tf (.ty (.ty (.ty (.run 2 (.ty (.run 5 (.fn))))))) (.fy (.fy (.fy (.run 2 (.tf (.run 5 (.fn)) (.run 36 (.tf (.ty (.ty (.ty (.run 1 (.ty (.ty (.ty (.ty (.ty (.run 2 (.ty (.run 5 (.no))))))))))))) (.fy (.fy (.fy (.run 1 (.tf (.ty (.ty (.ty (.ty (.run 2 (.ty (.run 5 (.no)))))))) (.fy (.fy (.fy (.fy (.run 2 (.tf (.run 5 (.no)) (.run 8 (.tf (.ty (.ty (.ty (.run 2 (.ty (.run 5 (.fn))))))) (.fy (.fy (.fy (.run 2 (.tf (.run 5 (.fn)) (.run 16 (.tf (.ty (.ty (.ty (.run 4 (.fn))))) (.fy (.fy (.fy (.run 4 (.no))))))))))))))))))))))))))))))))))) (.no)))) (.fy (.fy (.alt [false,false] (.fy (.run 1 (.fy (.fy (.fy (.fy (.run 2 (.tf (.run 5 (.fn)) (.run 36 (.tf (.ty (.ty (.ty (.run 1 (.ty (.ty (.ty (.ty (.ty (.run 2 (.ty (.run 5 (.no))))))))))))) (.fy (.fy (.fy (.run 1 (.tf (.ty (.ty (.ty (.ty (.run 2 (.ty (.run 5 (.no)))))))) (.fy (.fy (.fy (.fy (.run 2 (.tf (.run 5 (.no)) (.run 8 (.tf (.ty (.ty (.ty (.run 2 (.ty (.run 5 (.fn))))))) (.fy (.fy (.fy (.run 2 (.tf (.run 5 (.fn)) (.run 16 (.tf (.ty (.ty (.ty (.run 4 (.fn))))) (.fy (.fy (.fy (.run 4 (.no))))))))))))))))))))))))))))))))))) (.no)))))))))))) (f3e xs s) []=ZqW A K F xs s:=by kernel_rfl
end Go.Proofs.Ytbbemleognkdhaa
/- The law of strings of elements: the walk, joined with what is read back. No condition. -/
namespace Go.Proofs.Ytbbemleognkdhaa
def Zu5(x:Nat):Bool:=decide (Lib.indexByte digs ((if x≤15 then digs.getD x 0 else 63:UInt8).toNat:Nat).toUInt8=x)
theorem Znq:∀x,x<16→Zu5 x=true:=by decide +kernel
theorem Zi0{x:Int}(h:Zaw x 0 15=true):dv (ZhF x).toNat=x:=by
 obtain⟨h0,h1,_⟩:=Zgp h
 obtain⟨n,rfl⟩:∃n:Nat,x=n:=⟨x.toNat,by omega⟩
 have hb:=of_decide_eq_true (Znq n (by omega))
 have e:ZhF n=(if n≤15 then digs.getD n 0 else 63:UInt8):=by
  unfold ZhF
  by_cases hn:n≤15
  ·rw[if_pos ⟨h0,h1⟩,if_pos hn];rfl
  ·omega
 rw[e,Zr6];exact hb
theorem Zlz{xs:List Int}(h:ZhE xs=0)(hl:¬400<xs.length):Zfg (ZbW xs)=xs∧ZhG (ZbW xs)=0:=by
 have hall:∀x∈xs,Zaw x 0 15=true:=by
  unfold ZhE at h
  split at h
  ·rename_i hh;exact List.all_eq_true.1 hh
  ·cases h
 have hm:(ZdX (ZbW xs)).map dv=xs:=by
  unfold ZdX;rw[Zey]
  rw[List.map_map,List.map_map]
  conv=>rhs;rw[←List.map_id xs]
  exact List.map_congr_left fun x hx=>Zi0 (hall x hx)
 have hok:okD (ZdX (ZbW xs))=true:=by
  unfold okD
  refine List.all_eq_true.2 fun c hc=>?_
  rw[Zey]at hc
  obtain⟨b,hb,rfl⟩:=List.mem_map.1 hc
  obtain⟨x,hx,rfl⟩:=List.mem_map.1 hb
  rw[Zi0 (hall x hx)]
  have:=(Zgp (hall x hx)).1
  exact decide_eq_true this
 have hlen:=Zig xs
 unfold Zfg ZhG
 rw[if_neg (by omega),if_neg (by omega),hok,hm]
 exact⟨rfl,rfl⟩
theorem ZhJ(xs:List Int)(s:List UInt8):Zaf Try.prog 3 [.list (.ints .i64 xs), .str s] (.bool true) none:=
 start (Zq6 xs s) fun C hC=>tgo hC ZuE Zwx (by
  have hlen:=Zig xs
  cases hf:Zq0 xs.length 400 with
  |false=>simp[ZqW,hf]
  |true=>
   have hx:xs.length≤402:=by unfold Zq0 at hf;have:=of_decide_eq_true hf;omega
   have hx2:xs.length≤1000000:=by omega
   by_cases h1:(402:Int)<s.length
   ·by_cases h2:(60:Int)<s.length<;>by_cases h3:(s.length:Int)≤400<;>simp[ZqW,hf,h1,h2,h3]
   ·have hs:s.length≤1000000:=by omega
    have hp:(Zfg s).length≤1000000:=by
     unfold Zfg
     split
     ·simp
     ·cases okD (ZdX s)<;>simp[ZdX];omega
    have key:∀P:Prop,(ZhE xs=0→¬400<xs.length→P)→(¬ZhE xs=0∨400<xs.length∨P):=fun P h=>by
     by_cases a:ZhE xs=0
     ·by_cases b:400<xs.length
      ·exact .inr (.inl b)
      ·exact .inr (.inr (h a b))
     ·exact .inl a
    rcases key _ (fun a b=>Zlz a b)with a |b |⟨c,d⟩
    ·by_cases h2:(60:Int)<s.length<;>by_cases h3:(s.length:Int)≤400<;>simp[ZqW,hf,h1,h2,h3,hx2,hs,hp,a]
    ·by_cases a:ZhE xs=0<;>by_cases h2:(60:Int)<s.length<;>by_cases h3:(s.length:Int)≤400<;>simp[ZqW,hf,h1,h2,h3,hx2,hs,hp,a,show(400:Int)<xs.length by omega]
    ·by_cases b:(400:Int)<xs.length<;>by_cases a:ZhE xs=0<;>by_cases h2:(60:Int)<s.length<;>by_cases h3:(s.length:Int)≤400<;>simp[ZqW,hf,h1,h2,h3,hx2,hs,hp,a,b,c,d,hlen])
end Go.Proofs.Ytbbemleognkdhaa
/- CodeStrings: for every input it returns true, and the arguments read as they did. No condition. -/
namespace Go.Proofs.Ytbbemleognkdhaa
open Go.ChangeShapes Go.WideShapes Go.ChangeAt Go.RowKit
theorem sh3_0:ZpD Try.prog 8 22=some [.ints .i64]:=by kernel_rfl
theorem sh3_1:ZpD Try.prog 8 9=some [.str]:=by kernel_rfl
set_option maxRecDepth 100000 in
theorem law3(os:Os)(started:os.Started)(H:Type)(enc:TypeId×Value→H):
 ReturnsInHanded {} Try.checked os 3 .any (Rows.codeStringsSpec.pre6 enc Try.prog Try.f3 Rows.codeStringsRow.domain false) (Rows.codeStringsSpec.post enc Try.prog Try.f3 false true false false):=by
 refine returnsInHanded_of_change (C:=Try.checked) own started (by kernel_rfl) Try.func3
  (ChangeSpec.witness6 (enc:=enc) (C:=Try.checked) false ⟨#[], #[.slice none 0 0, .string ⟨#[]⟩],[]⟩ 8 (by kernel_rfl) (by kernel_rfl) (by kernel_rfl) (by kernel_rfl)) ?_
 intro W base args ds gs before hval0 hW _ _
 have hval:∀(j:Nat) t v,Try.f3.params[j]? =some t→args[j]? =some v→Value.okWide Try.prog W .any base t v:=hval0
 have hW':=hW
 obtain⟨p,q,hA0,hV,rfl,_,_⟩:=hW
 have hA:DataW.TrodAll enc Try.prog W 0 (fun _=>true) true Try.f3.params.toList args.toList ds p:=hA0
 rw[Try.params3]at hA hval
 obtain⟨v0,v1,d0,d1,p0,p1,rfl,rfl,rfl,h0,h1⟩:=trodAll_two hA
 obtain⟨rfl,rfl⟩:=trodVars_none hV
 have hlt:∀x∈p0++p1,x.block<W.heap.size:=fun x hx=>by simpa using hW'.lt x (by simpa using hx)
 obtain⟨u0,r0,c0⟩:=ZoW (L:=⟨fun _ _=>0,fun _ _=>0⟩) sh3_0 (by obtain⟨a,l,c,rfl⟩:=okWide_slice Try.underlying22 (hval 0 22 v0 rfl rfl);rfl) h0
 obtain⟨xs,rfl,_⟩:=ZpM c0
 obtain⟨u1,r1,c1⟩:=ZoW (L:=⟨fun _ _=>0,fun _ _=>0⟩) sh3_1 (by obtain⟨x,rfl⟩:=okWide_string Try.underlying9 (hval 1 9 v1 rfl rfl);rfl) h1
 obtain⟨s,rfl⟩:=Zsl c1
 refine(ZoL trivial (ZhJ xs s) (RelL.cons ( r0) (RelL.cons ( r1) RelL.nil))).mono fun e W' ⟨he,hb⟩=>?_
 subst he
 refine⟨_,rfl,_,_,_,[],p0++p1,[],hW',trodAll_mk1 (shut_bool Try.underlying4 true),?_,rfl,hb.frame _,fun h=>by cases h⟩
 exact trodAll_mk2 (Below.trod Zmp (by kernel_rfl) (of_decide_eq_true (by kernel_rfl)) h0 hb (fun x hx=>hlt x (List.mem_append_left _ hx))) (Below.trod Zmp (by kernel_rfl) (of_decide_eq_true (by kernel_rfl)) h1 hb (fun x hx=>hlt x (List.mem_append_right _ hx)))
theorem n3 : Try.checked.prog.funcNamed "cassegrain/cassegrainlaw05.CodeStrings" = some 3 := by kernel_rfl
theorem j3:joinedFacts Try.checked.prog 3 Try.f3 Rows.codeStringsSpec Rows.codeStringsRow=true:=by kernel_rfl
theorem i3:Try.f3.isInstance Try.checked.prog Rows.codeStringsRow.origin Rows.codeStringsRow.targs:=of_decide_eq_true (by kernel_rfl)
theorem w3:Try.f3.isWrapper Try.checked.prog Rows.codeStringsRow.wrapper Rows.codeStringsRow.mainSum:=by
 unfold Func.isWrapper
 first |(rw [if_pos (by decide +kernel)];kernel_rfl) |(rw [if_neg (by decide +kernel)];exact⟨rfl,rfl⟩)
theorem CodeStrings_holds:Rows.CodeStringsSaid:=
 OpenClaim.holds_of_wide 3 Try.f3 rfl rfl rfl rfl rfl rfl rfl ⟨rfl,rfl,rfl,rfl,rfl⟩ rfl rfl rfl rfl rfl n3 Try.func3 j3 i3 w3 (fun os started H enc _=>law3 os started H enc)
#print axioms CodeStrings_holds
end Go.Proofs.Ytbbemleognkdhaa
