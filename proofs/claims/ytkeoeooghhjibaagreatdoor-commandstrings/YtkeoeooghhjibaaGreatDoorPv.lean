/- Calls at given values. Printed by facts.py. -/
import Derived.Test.YtkeoeooghhjibaaGreatDoorCo
import Derived.KernelRfl
namespace Go.Proofs.YtkeoeooghhjibaaGreatDoor
set_option maxRecDepth 1000000
def aw0:Fact:=⟨66,[],(.agg (.gen [(.list (.big .str [(.str [115,97,102,101]),(.str [99,114,117,105,115,101]),(.str [98,117,114,110])])),(.list (.big (.agg [.str,(.int .i64)]) [(.agg (.gen [(.str [119,97,107,101]),(.int .i64 1)])),(.agg (.gen [(.str [102,105,114,101]),(.int .i64 2)])),(.agg (.gen [(.str [115,116,111,112]),(.int .i64 1)])),(.agg (.gen [(.str [112,105,110,103]),(.int .i64 (-1))]))])),(.list (.big (.agg [.str,(.int .i64),(.int .i64),(.int .i64),(.int .i64)]) [(.agg (.gen [(.str [99,111,108,100]),(.int .i64 1),(.int .i64 0),(.int .i64 (-1)),(.int .i64 1)])),(.agg (.gen [(.str [104,101,97,116]),(.int .i64 1),(.int .i64 (-1)),(.int .i64 2),(.int .i64 50)]))])),(.list (.big (.agg [(.int .i64),(.int .i64),(.int .i64)]) [(.agg (.gen [(.int .i64 0),(.int .i64 0),(.int .i64 100)])),(.agg (.gen [(.int .i64 1),(.int .i64 20),(.int .i64 200)])),(.agg (.gen [(.int .i64 2),(.int .i64 30),(.int .i64 300)])),(.agg (.gen [(.int .i64 1),(.int .i64 40),(.int .i64 400)]))])),(.int .i64 2),(.int .i64 2)])),none⟩
theorem ZvE:Zan Tryz.prog aw0.f aw0.args aw0.r aw0.fr:=Zab (n:=100000) (l:=[]) follows Zad trivial (by kernel_rfl)
def aw1:Fact:=⟨68,[(.bool true),(.int .i64 10)],(.int .i64 0),none⟩
theorem Znq:Zan Tryz.prog aw1.f aw1.args aw1.r aw1.fr:=Zab (n:=100000) (l:=[]) follows Zad trivial (by kernel_rfl)
def aw2:Fact:=⟨68,[(.bool true),(.int .i64 8)],(.int .i64 0),none⟩
theorem ZkG:Zan Tryz.prog aw2.f aw2.args aw2.r aw2.fr:=Zab (n:=100000) (l:=[]) follows Zad trivial (by kernel_rfl)
def aw3:Fact:=⟨67,[(.list (.ints .i64 [0,0]))],(.int .i64 0),none⟩
theorem Zkz:Zan Tryz.prog aw3.f aw3.args aw3.r aw3.fr:=Zab (n:=100000) (l:=[]) follows Zad trivial (by kernel_rfl)
def aw4:Fact:=⟨160,[(.int .i64 0),(.eptr (.agg (.gen [(.list (.big .str [(.str [115,97,102,101]),(.str [99,114,117,105,115,101]),(.str [98,117,114,110])])),(.list (.big (.agg [.str,(.int .i64)]) [(.agg (.gen [(.str [119,97,107,101]),(.int .i64 1)])),(.agg (.gen [(.str [102,105,114,101]),(.int .i64 2)])),(.agg (.gen [(.str [115,116,111,112]),(.int .i64 1)])),(.agg (.gen [(.str [112,105,110,103]),(.int .i64 (-1))]))])),(.list (.big (.agg [.str,(.int .i64),(.int .i64),(.int .i64),(.int .i64)]) [(.agg (.gen [(.str [99,111,108,100]),(.int .i64 1),(.int .i64 0),(.int .i64 (-1)),(.int .i64 1)])),(.agg (.gen [(.str [104,101,97,116]),(.int .i64 1),(.int .i64 (-1)),(.int .i64 2),(.int .i64 50)]))]))])) 0)],(.str [115,97,102,101]),none⟩
theorem ZuA:Zan Tryz.prog aw4.f aw4.args aw4.r aw4.fr:=Zab (n:=100000) (l:=[]) follows Zad trivial (by kernel_rfl)
def aw5:Fact:=⟨182,[(.str [115,97,102,101])],(.bool true),none⟩
theorem ZvC:Zan Tryz.prog aw5.f aw5.args aw5.r aw5.fr:=Zab (n:=100000) (l:=[]) follows Zad trivial (by kernel_rfl)
def aw6:Fact:=⟨68,[(.bool true),(.int .i64 4)],(.int .i64 0),none⟩
theorem ZuO:Zan Tryz.prog aw6.f aw6.args aw6.r aw6.fr:=Zab (n:=100000) (l:=[]) follows Zad trivial (by kernel_rfl)
def aw7:Fact:=⟨68,[(.bool true),(.int .i64 5)],(.int .i64 0),none⟩
theorem ZtH:Zan Tryz.prog aw7.f aw7.args aw7.r aw7.fr:=Zab (n:=100000) (l:=[]) follows Zad trivial (by kernel_rfl)
def aw8:Fact:=⟨161,[(.int .i64 0)],(.int .i64 0),none⟩
theorem Zvf:Zan Tryz.prog aw8.f aw8.args aw8.r aw8.fr:=Zab (n:=100000) (l:=[]) follows Zad trivial (by kernel_rfl)
def aw9:Fact:=⟨67,[(.list (.ints .i64 [0,0,0]))],(.int .i64 0),none⟩
theorem ZeV:Zan Tryz.prog aw9.f aw9.args aw9.r aw9.fr:=Zab (n:=100000) (l:=[]) follows Zad trivial (by kernel_rfl)
def aw10:Fact:=⟨160,[(.int .i64 1),(.eptr (.agg (.gen [(.list (.big .str [(.str [115,97,102,101]),(.str [99,114,117,105,115,101]),(.str [98,117,114,110])])),(.list (.big (.agg [.str,(.int .i64)]) [(.agg (.gen [(.str [119,97,107,101]),(.int .i64 1)])),(.agg (.gen [(.str [102,105,114,101]),(.int .i64 2)])),(.agg (.gen [(.str [115,116,111,112]),(.int .i64 1)])),(.agg (.gen [(.str [112,105,110,103]),(.int .i64 (-1))]))])),(.list (.big (.agg [.str,(.int .i64),(.int .i64),(.int .i64),(.int .i64)]) [(.agg (.gen [(.str [99,111,108,100]),(.int .i64 1),(.int .i64 0),(.int .i64 (-1)),(.int .i64 1)])),(.agg (.gen [(.str [104,101,97,116]),(.int .i64 1),(.int .i64 (-1)),(.int .i64 2),(.int .i64 50)]))]))])) 0)],(.str [99,114,117,105,115,101]),none⟩
theorem Zr1:Zan Tryz.prog aw10.f aw10.args aw10.r aw10.fr:=Zab (n:=100000) (l:=[]) follows Zad trivial (by kernel_rfl)
def aw11:Fact:=⟨182,[(.str [99,114,117,105,115,101])],(.bool true),none⟩
theorem Zqq:Zan Tryz.prog aw11.f aw11.args aw11.r aw11.fr:=Zab (n:=100000) (l:=[]) follows Zad trivial (by kernel_rfl)
def aw12:Fact:=⟨161,[(.int .i64 1)],(.int .i64 0),none⟩
theorem ZrY:Zan Tryz.prog aw12.f aw12.args aw12.r aw12.fr:=Zab (n:=100000) (l:=[]) follows Zad trivial (by kernel_rfl)
def aw13:Fact:=⟨160,[(.int .i64 2),(.eptr (.agg (.gen [(.list (.big .str [(.str [115,97,102,101]),(.str [99,114,117,105,115,101]),(.str [98,117,114,110])])),(.list (.big (.agg [.str,(.int .i64)]) [(.agg (.gen [(.str [119,97,107,101]),(.int .i64 1)])),(.agg (.gen [(.str [102,105,114,101]),(.int .i64 2)])),(.agg (.gen [(.str [115,116,111,112]),(.int .i64 1)])),(.agg (.gen [(.str [112,105,110,103]),(.int .i64 (-1))]))])),(.list (.big (.agg [.str,(.int .i64),(.int .i64),(.int .i64),(.int .i64)]) [(.agg (.gen [(.str [99,111,108,100]),(.int .i64 1),(.int .i64 0),(.int .i64 (-1)),(.int .i64 1)])),(.agg (.gen [(.str [104,101,97,116]),(.int .i64 1),(.int .i64 (-1)),(.int .i64 2),(.int .i64 50)]))]))])) 0)],(.str [98,117,114,110]),none⟩
theorem Zse:Zan Tryz.prog aw13.f aw13.args aw13.r aw13.fr:=Zab (n:=100000) (l:=[]) follows Zad trivial (by kernel_rfl)
def aw14:Fact:=⟨182,[(.str [98,117,114,110])],(.bool true),none⟩
theorem Zre:Zan Tryz.prog aw14.f aw14.args aw14.r aw14.fr:=Zab (n:=100000) (l:=[]) follows Zad trivial (by kernel_rfl)
def aw15:Fact:=⟨161,[(.int .i64 2)],(.int .i64 0),none⟩
theorem Zr9:Zan Tryz.prog aw15.f aw15.args aw15.r aw15.fr:=Zab (n:=100000) (l:=[]) follows Zad trivial (by kernel_rfl)
def aw16:Fact:=⟨162,[(.int .i64 0),(.eptr (.agg (.gen [(.list (.big .str [(.str [115,97,102,101]),(.str [99,114,117,105,115,101]),(.str [98,117,114,110])])),(.list (.big (.agg [.str,(.int .i64)]) [(.agg (.gen [(.str [119,97,107,101]),(.int .i64 1)])),(.agg (.gen [(.str [102,105,114,101]),(.int .i64 2)])),(.agg (.gen [(.str [115,116,111,112]),(.int .i64 1)])),(.agg (.gen [(.str [112,105,110,103]),(.int .i64 (-1))]))])),(.list (.big (.agg [.str,(.int .i64),(.int .i64),(.int .i64),(.int .i64)]) [(.agg (.gen [(.str [99,111,108,100]),(.int .i64 1),(.int .i64 0),(.int .i64 (-1)),(.int .i64 1)])),(.agg (.gen [(.str [104,101,97,116]),(.int .i64 1),(.int .i64 (-1)),(.int .i64 2),(.int .i64 50)]))]))])) 0)],(.str [119,97,107,101]),none⟩
theorem ZqF:Zan Tryz.prog aw16.f aw16.args aw16.r aw16.fr:=Zab (n:=100000) (l:=[]) follows Zad trivial (by kernel_rfl)
def aw17:Fact:=⟨182,[(.str [119,97,107,101])],(.bool true),none⟩
theorem Zsk:Zan Tryz.prog aw17.f aw17.args aw17.r aw17.fr:=Zab (n:=100000) (l:=[]) follows Zad trivial (by kernel_rfl)
def aw18:Fact:=⟨82,[(.int .i64 1),(.int .i64 0),(.int .i64 2)],(.bool true),none⟩
theorem Zr6:Zan Tryz.prog aw18.f aw18.args aw18.r aw18.fr:=Zab (n:=100000) (l:=[]) follows Zad trivial (by kernel_rfl)
def aw19:Fact:=⟨158,[(.int .i64 1),(.int .i64 3)],(.bool true),none⟩
theorem Znb:Zan Tryz.prog aw19.f aw19.args aw19.r aw19.fr:=Zab (n:=100000) (l:=[aw18]) follows Zad ⟨Zr6,trivial⟩ (by kernel_rfl)
def aw20:Fact:=⟨68,[(.bool true),(.int .i64 6)],(.int .i64 0),none⟩
theorem Zcj:Zan Tryz.prog aw20.f aw20.args aw20.r aw20.fr:=Zab (n:=100000) (l:=[]) follows Zad trivial (by kernel_rfl)
def aw21:Fact:=⟨163,[(.int .i64 0),(.eptr (.fn 158 []) 0),(.eptr (.agg (.gen [(.list (.big .str [(.str [115,97,102,101]),(.str [99,114,117,105,115,101]),(.str [98,117,114,110])])),(.list (.big (.agg [.str,(.int .i64)]) [(.agg (.gen [(.str [119,97,107,101]),(.int .i64 1)])),(.agg (.gen [(.str [102,105,114,101]),(.int .i64 2)])),(.agg (.gen [(.str [115,116,111,112]),(.int .i64 1)])),(.agg (.gen [(.str [112,105,110,103]),(.int .i64 (-1))]))])),(.list (.big (.agg [.str,(.int .i64),(.int .i64),(.int .i64),(.int .i64)]) [(.agg (.gen [(.str [99,111,108,100]),(.int .i64 1),(.int .i64 0),(.int .i64 (-1)),(.int .i64 1)])),(.agg (.gen [(.str [104,101,97,116]),(.int .i64 1),(.int .i64 (-1)),(.int .i64 2),(.int .i64 50)]))]))])) 0),(.eptr (.int .i64 3) 0)],(.int .i64 0),none⟩
theorem Zss:Zan Tryz.prog aw21.f aw21.args aw21.r aw21.fr:=Zab (n:=100000) (l:=[aw19,aw20]) follows Zad ⟨Znb,⟨Zcj,trivial⟩⟩ (by kernel_rfl)
def aw22:Fact:=⟨162,[(.int .i64 1),(.eptr (.agg (.gen [(.list (.big .str [(.str [115,97,102,101]),(.str [99,114,117,105,115,101]),(.str [98,117,114,110])])),(.list (.big (.agg [.str,(.int .i64)]) [(.agg (.gen [(.str [119,97,107,101]),(.int .i64 1)])),(.agg (.gen [(.str [102,105,114,101]),(.int .i64 2)])),(.agg (.gen [(.str [115,116,111,112]),(.int .i64 1)])),(.agg (.gen [(.str [112,105,110,103]),(.int .i64 (-1))]))])),(.list (.big (.agg [.str,(.int .i64),(.int .i64),(.int .i64),(.int .i64)]) [(.agg (.gen [(.str [99,111,108,100]),(.int .i64 1),(.int .i64 0),(.int .i64 (-1)),(.int .i64 1)])),(.agg (.gen [(.str [104,101,97,116]),(.int .i64 1),(.int .i64 (-1)),(.int .i64 2),(.int .i64 50)]))]))])) 0)],(.str [102,105,114,101]),none⟩
theorem Zsr:Zan Tryz.prog aw22.f aw22.args aw22.r aw22.fr:=Zab (n:=100000) (l:=[]) follows Zad trivial (by kernel_rfl)
def aw23:Fact:=⟨182,[(.str [102,105,114,101])],(.bool true),none⟩
theorem ZqQ:Zan Tryz.prog aw23.f aw23.args aw23.r aw23.fr:=Zab (n:=100000) (l:=[]) follows Zad trivial (by kernel_rfl)
def aw24:Fact:=⟨82,[(.int .i64 2),(.int .i64 0),(.int .i64 2)],(.bool true),none⟩
theorem Zsn:Zan Tryz.prog aw24.f aw24.args aw24.r aw24.fr:=Zab (n:=100000) (l:=[]) follows Zad trivial (by kernel_rfl)
def aw25:Fact:=⟨158,[(.int .i64 2),(.int .i64 3)],(.bool true),none⟩
theorem Zsa:Zan Tryz.prog aw25.f aw25.args aw25.r aw25.fr:=Zab (n:=100000) (l:=[aw24]) follows Zad ⟨Zsn,trivial⟩ (by kernel_rfl)
def aw26:Fact:=⟨163,[(.int .i64 1),(.eptr (.fn 158 []) 0),(.eptr (.agg (.gen [(.list (.big .str [(.str [115,97,102,101]),(.str [99,114,117,105,115,101]),(.str [98,117,114,110])])),(.list (.big (.agg [.str,(.int .i64)]) [(.agg (.gen [(.str [119,97,107,101]),(.int .i64 1)])),(.agg (.gen [(.str [102,105,114,101]),(.int .i64 2)])),(.agg (.gen [(.str [115,116,111,112]),(.int .i64 1)])),(.agg (.gen [(.str [112,105,110,103]),(.int .i64 (-1))]))])),(.list (.big (.agg [.str,(.int .i64),(.int .i64),(.int .i64),(.int .i64)]) [(.agg (.gen [(.str [99,111,108,100]),(.int .i64 1),(.int .i64 0),(.int .i64 (-1)),(.int .i64 1)])),(.agg (.gen [(.str [104,101,97,116]),(.int .i64 1),(.int .i64 (-1)),(.int .i64 2),(.int .i64 50)]))]))])) 0),(.eptr (.int .i64 3) 0)],(.int .i64 0),none⟩
theorem Zrw:Zan Tryz.prog aw26.f aw26.args aw26.r aw26.fr:=Zab (n:=100000) (l:=[aw25,aw20]) follows Zad ⟨Zsa,⟨Zcj,trivial⟩⟩ (by kernel_rfl)
def aw27:Fact:=⟨162,[(.int .i64 2),(.eptr (.agg (.gen [(.list (.big .str [(.str [115,97,102,101]),(.str [99,114,117,105,115,101]),(.str [98,117,114,110])])),(.list (.big (.agg [.str,(.int .i64)]) [(.agg (.gen [(.str [119,97,107,101]),(.int .i64 1)])),(.agg (.gen [(.str [102,105,114,101]),(.int .i64 2)])),(.agg (.gen [(.str [115,116,111,112]),(.int .i64 1)])),(.agg (.gen [(.str [112,105,110,103]),(.int .i64 (-1))]))])),(.list (.big (.agg [.str,(.int .i64),(.int .i64),(.int .i64),(.int .i64)]) [(.agg (.gen [(.str [99,111,108,100]),(.int .i64 1),(.int .i64 0),(.int .i64 (-1)),(.int .i64 1)])),(.agg (.gen [(.str [104,101,97,116]),(.int .i64 1),(.int .i64 (-1)),(.int .i64 2),(.int .i64 50)]))]))])) 0)],(.str [115,116,111,112]),none⟩
theorem Zrh:Zan Tryz.prog aw27.f aw27.args aw27.r aw27.fr:=Zab (n:=100000) (l:=[]) follows Zad trivial (by kernel_rfl)
def aw28:Fact:=⟨182,[(.str [115,116,111,112])],(.bool true),none⟩
theorem ZqU:Zan Tryz.prog aw28.f aw28.args aw28.r aw28.fr:=Zab (n:=100000) (l:=[]) follows Zad trivial (by kernel_rfl)
def aw29:Fact:=⟨163,[(.int .i64 2),(.eptr (.fn 158 []) 0),(.eptr (.agg (.gen [(.list (.big .str [(.str [115,97,102,101]),(.str [99,114,117,105,115,101]),(.str [98,117,114,110])])),(.list (.big (.agg [.str,(.int .i64)]) [(.agg (.gen [(.str [119,97,107,101]),(.int .i64 1)])),(.agg (.gen [(.str [102,105,114,101]),(.int .i64 2)])),(.agg (.gen [(.str [115,116,111,112]),(.int .i64 1)])),(.agg (.gen [(.str [112,105,110,103]),(.int .i64 (-1))]))])),(.list (.big (.agg [.str,(.int .i64),(.int .i64),(.int .i64),(.int .i64)]) [(.agg (.gen [(.str [99,111,108,100]),(.int .i64 1),(.int .i64 0),(.int .i64 (-1)),(.int .i64 1)])),(.agg (.gen [(.str [104,101,97,116]),(.int .i64 1),(.int .i64 (-1)),(.int .i64 2),(.int .i64 50)]))]))])) 0),(.eptr (.int .i64 3) 0)],(.int .i64 0),none⟩
theorem ZrH:Zan Tryz.prog aw29.f aw29.args aw29.r aw29.fr:=Zab (n:=100000) (l:=[aw19,aw20]) follows Zad ⟨Znb,⟨Zcj,trivial⟩⟩ (by kernel_rfl)
def aw30:Fact:=⟨162,[(.int .i64 3),(.eptr (.agg (.gen [(.list (.big .str [(.str [115,97,102,101]),(.str [99,114,117,105,115,101]),(.str [98,117,114,110])])),(.list (.big (.agg [.str,(.int .i64)]) [(.agg (.gen [(.str [119,97,107,101]),(.int .i64 1)])),(.agg (.gen [(.str [102,105,114,101]),(.int .i64 2)])),(.agg (.gen [(.str [115,116,111,112]),(.int .i64 1)])),(.agg (.gen [(.str [112,105,110,103]),(.int .i64 (-1))]))])),(.list (.big (.agg [.str,(.int .i64),(.int .i64),(.int .i64),(.int .i64)]) [(.agg (.gen [(.str [99,111,108,100]),(.int .i64 1),(.int .i64 0),(.int .i64 (-1)),(.int .i64 1)])),(.agg (.gen [(.str [104,101,97,116]),(.int .i64 1),(.int .i64 (-1)),(.int .i64 2),(.int .i64 50)]))]))])) 0)],(.str [112,105,110,103]),none⟩
theorem ZrU:Zan Tryz.prog aw30.f aw30.args aw30.r aw30.fr:=Zab (n:=100000) (l:=[]) follows Zad trivial (by kernel_rfl)
def aw31:Fact:=⟨182,[(.str [112,105,110,103])],(.bool true),none⟩
theorem Zsh:Zan Tryz.prog aw31.f aw31.args aw31.r aw31.fr:=Zab (n:=100000) (l:=[]) follows Zad trivial (by kernel_rfl)
def aw32:Fact:=⟨158,[(.int .i64 (-1)),(.int .i64 3)],(.bool true),none⟩
theorem Znh:Zan Tryz.prog aw32.f aw32.args aw32.r aw32.fr:=Zab (n:=100000) (l:=[]) follows Zad trivial (by kernel_rfl)
def aw33:Fact:=⟨163,[(.int .i64 3),(.eptr (.fn 158 []) 0),(.eptr (.agg (.gen [(.list (.big .str [(.str [115,97,102,101]),(.str [99,114,117,105,115,101]),(.str [98,117,114,110])])),(.list (.big (.agg [.str,(.int .i64)]) [(.agg (.gen [(.str [119,97,107,101]),(.int .i64 1)])),(.agg (.gen [(.str [102,105,114,101]),(.int .i64 2)])),(.agg (.gen [(.str [115,116,111,112]),(.int .i64 1)])),(.agg (.gen [(.str [112,105,110,103]),(.int .i64 (-1))]))])),(.list (.big (.agg [.str,(.int .i64),(.int .i64),(.int .i64),(.int .i64)]) [(.agg (.gen [(.str [99,111,108,100]),(.int .i64 1),(.int .i64 0),(.int .i64 (-1)),(.int .i64 1)])),(.agg (.gen [(.str [104,101,97,116]),(.int .i64 1),(.int .i64 (-1)),(.int .i64 2),(.int .i64 50)]))]))])) 0),(.eptr (.int .i64 3) 0)],(.int .i64 0),none⟩
theorem ZrR:Zan Tryz.prog aw33.f aw33.args aw33.r aw33.fr:=Zab (n:=100000) (l:=[aw32,aw20]) follows Zad ⟨Znh,⟨Zcj,trivial⟩⟩ (by kernel_rfl)
def aw34:Fact:=⟨164,[(.int .i64 0),(.eptr (.agg (.gen [(.list (.big .str [(.str [115,97,102,101]),(.str [99,114,117,105,115,101]),(.str [98,117,114,110])])),(.list (.big (.agg [.str,(.int .i64)]) [(.agg (.gen [(.str [119,97,107,101]),(.int .i64 1)])),(.agg (.gen [(.str [102,105,114,101]),(.int .i64 2)])),(.agg (.gen [(.str [115,116,111,112]),(.int .i64 1)])),(.agg (.gen [(.str [112,105,110,103]),(.int .i64 (-1))]))])),(.list (.big (.agg [.str,(.int .i64),(.int .i64),(.int .i64),(.int .i64)]) [(.agg (.gen [(.str [99,111,108,100]),(.int .i64 1),(.int .i64 0),(.int .i64 (-1)),(.int .i64 1)])),(.agg (.gen [(.str [104,101,97,116]),(.int .i64 1),(.int .i64 (-1)),(.int .i64 2),(.int .i64 50)]))]))])) 0)],(.str [99,111,108,100]),none⟩
theorem ZqV:Zan Tryz.prog aw34.f aw34.args aw34.r aw34.fr:=Zab (n:=100000) (l:=[]) follows Zad trivial (by kernel_rfl)
def aw35:Fact:=⟨182,[(.str [99,111,108,100])],(.bool true),none⟩
theorem ZrZ:Zan Tryz.prog aw35.f aw35.args aw35.r aw35.fr:=Zab (n:=100000) (l:=[]) follows Zad trivial (by kernel_rfl)
def aw36:Fact:=⟨82,[(.int .i64 1),(.int .i64 0),(.int .i64 3)],(.bool true),none⟩
theorem Zgk:Zan Tryz.prog aw36.f aw36.args aw36.r aw36.fr:=Zab (n:=100000) (l:=[]) follows Zad trivial (by kernel_rfl)
def aw37:Fact:=⟨82,[(.int .i64 0),(.int .i64 0),(.int .i64 2)],(.bool true),none⟩
theorem ZmK:Zan Tryz.prog aw37.f aw37.args aw37.r aw37.fr:=Zab (n:=100000) (l:=[]) follows Zad trivial (by kernel_rfl)
def aw38:Fact:=⟨158,[(.int .i64 0),(.int .i64 3)],(.bool true),none⟩
theorem ZrS:Zan Tryz.prog aw38.f aw38.args aw38.r aw38.fr:=Zab (n:=100000) (l:=[aw37]) follows Zad ⟨ZmK,trivial⟩ (by kernel_rfl)
def aw39:Fact:=⟨158,[(.int .i64 (-1)),(.int .i64 4)],(.bool true),none⟩
theorem Zsq:Zan Tryz.prog aw39.f aw39.args aw39.r aw39.fr:=Zab (n:=100000) (l:=[]) follows Zad trivial (by kernel_rfl)
def aw40:Fact:=⟨82,[(.int .i64 1),(.int .i64 1),(.int .i64 1000000)],(.bool true),none⟩
theorem Zr0:Zan Tryz.prog aw40.f aw40.args aw40.r aw40.fr:=Zab (n:=100000) (l:=[]) follows Zad trivial (by kernel_rfl)
def aw41:Fact:=⟨68,[(.bool true),(.int .i64 2)],(.int .i64 0),none⟩
theorem Zbp:Zan Tryz.prog aw41.f aw41.args aw41.r aw41.fr:=Zab (n:=100000) (l:=[]) follows Zad trivial (by kernel_rfl)
def aw42:Fact:=⟨68,[(.bool true),(.int .i64 3)],(.int .i64 0),none⟩
theorem Zmu:Zan Tryz.prog aw42.f aw42.args aw42.r aw42.fr:=Zab (n:=100000) (l:=[]) follows Zad trivial (by kernel_rfl)
def aw43:Fact:=⟨165,[(.int .i64 0),(.eptr (.agg (.gen [(.list (.big .str [(.str [115,97,102,101]),(.str [99,114,117,105,115,101]),(.str [98,117,114,110])])),(.list (.big (.agg [.str,(.int .i64)]) [(.agg (.gen [(.str [119,97,107,101]),(.int .i64 1)])),(.agg (.gen [(.str [102,105,114,101]),(.int .i64 2)])),(.agg (.gen [(.str [115,116,111,112]),(.int .i64 1)])),(.agg (.gen [(.str [112,105,110,103]),(.int .i64 (-1))]))])),(.list (.big (.agg [.str,(.int .i64),(.int .i64),(.int .i64),(.int .i64)]) [(.agg (.gen [(.str [99,111,108,100]),(.int .i64 1),(.int .i64 0),(.int .i64 (-1)),(.int .i64 1)])),(.agg (.gen [(.str [104,101,97,116]),(.int .i64 1),(.int .i64 (-1)),(.int .i64 2),(.int .i64 50)]))]))])) 0),(.eptr (.int .i64 4) 0),(.eptr (.fn 158 []) 0),(.eptr (.int .i64 3) 0)],(.int .i64 0),none⟩
theorem ZrM:Zan Tryz.prog aw43.f aw43.args aw43.r aw43.fr:=Zab (n:=100000) (l:=[aw36,aw38,aw39,aw20,aw40,aw41,aw42,aw9]) follows Zad ⟨Zgk,⟨ZrS,⟨Zsq,⟨Zcj,⟨Zr0,⟨Zbp,⟨Zmu,⟨ZeV,trivial⟩⟩⟩⟩⟩⟩⟩⟩ (by kernel_rfl)
def aw44:Fact:=⟨164,[(.int .i64 1),(.eptr (.agg (.gen [(.list (.big .str [(.str [115,97,102,101]),(.str [99,114,117,105,115,101]),(.str [98,117,114,110])])),(.list (.big (.agg [.str,(.int .i64)]) [(.agg (.gen [(.str [119,97,107,101]),(.int .i64 1)])),(.agg (.gen [(.str [102,105,114,101]),(.int .i64 2)])),(.agg (.gen [(.str [115,116,111,112]),(.int .i64 1)])),(.agg (.gen [(.str [112,105,110,103]),(.int .i64 (-1))]))])),(.list (.big (.agg [.str,(.int .i64),(.int .i64),(.int .i64),(.int .i64)]) [(.agg (.gen [(.str [99,111,108,100]),(.int .i64 1),(.int .i64 0),(.int .i64 (-1)),(.int .i64 1)])),(.agg (.gen [(.str [104,101,97,116]),(.int .i64 1),(.int .i64 (-1)),(.int .i64 2),(.int .i64 50)]))]))])) 0)],(.str [104,101,97,116]),none⟩
theorem ZqP:Zan Tryz.prog aw44.f aw44.args aw44.r aw44.fr:=Zab (n:=100000) (l:=[]) follows Zad trivial (by kernel_rfl)
def aw45:Fact:=⟨182,[(.str [104,101,97,116])],(.bool true),none⟩
theorem Zq4:Zan Tryz.prog aw45.f aw45.args aw45.r aw45.fr:=Zab (n:=100000) (l:=[]) follows Zad trivial (by kernel_rfl)
def aw46:Fact:=⟨82,[(.int .i64 2),(.int .i64 0),(.int .i64 3)],(.bool true),none⟩
theorem Znr:Zan Tryz.prog aw46.f aw46.args aw46.r aw46.fr:=Zab (n:=100000) (l:=[]) follows Zad trivial (by kernel_rfl)
def aw47:Fact:=⟨158,[(.int .i64 2),(.int .i64 4)],(.bool true),none⟩
theorem Zqr:Zan Tryz.prog aw47.f aw47.args aw47.r aw47.fr:=Zab (n:=100000) (l:=[aw46]) follows Zad ⟨Znr,trivial⟩ (by kernel_rfl)
def aw48:Fact:=⟨82,[(.int .i64 50),(.int .i64 1),(.int .i64 1000000)],(.bool true),none⟩
theorem Zqj:Zan Tryz.prog aw48.f aw48.args aw48.r aw48.fr:=Zab (n:=100000) (l:=[]) follows Zad trivial (by kernel_rfl)
def aw49:Fact:=⟨165,[(.int .i64 1),(.eptr (.agg (.gen [(.list (.big .str [(.str [115,97,102,101]),(.str [99,114,117,105,115,101]),(.str [98,117,114,110])])),(.list (.big (.agg [.str,(.int .i64)]) [(.agg (.gen [(.str [119,97,107,101]),(.int .i64 1)])),(.agg (.gen [(.str [102,105,114,101]),(.int .i64 2)])),(.agg (.gen [(.str [115,116,111,112]),(.int .i64 1)])),(.agg (.gen [(.str [112,105,110,103]),(.int .i64 (-1))]))])),(.list (.big (.agg [.str,(.int .i64),(.int .i64),(.int .i64),(.int .i64)]) [(.agg (.gen [(.str [99,111,108,100]),(.int .i64 1),(.int .i64 0),(.int .i64 (-1)),(.int .i64 1)])),(.agg (.gen [(.str [104,101,97,116]),(.int .i64 1),(.int .i64 (-1)),(.int .i64 2),(.int .i64 50)]))]))])) 0),(.eptr (.int .i64 4) 0),(.eptr (.fn 158 []) 0),(.eptr (.int .i64 3) 0)],(.int .i64 0),none⟩
theorem ZsG:Zan Tryz.prog aw49.f aw49.args aw49.r aw49.fr:=Zab (n:=100000) (l:=[aw36,aw32,aw47,aw20,aw48,aw41,aw42,aw9]) follows Zad ⟨Zgk,⟨Znh,⟨Zqr,⟨Zcj,⟨Zqj,⟨Zbp,⟨Zmu,⟨ZeV,trivial⟩⟩⟩⟩⟩⟩⟩⟩ (by kernel_rfl)
def aw50:Fact:=⟨136,[(.agg (.gen [(.list (.big .str [(.str [115,97,102,101]),(.str [99,114,117,105,115,101]),(.str [98,117,114,110])])),(.list (.big (.agg [.str,(.int .i64)]) [(.agg (.gen [(.str [119,97,107,101]),(.int .i64 1)])),(.agg (.gen [(.str [102,105,114,101]),(.int .i64 2)])),(.agg (.gen [(.str [115,116,111,112]),(.int .i64 1)])),(.agg (.gen [(.str [112,105,110,103]),(.int .i64 (-1))]))])),(.list (.big (.agg [.str,(.int .i64),(.int .i64),(.int .i64),(.int .i64)]) [(.agg (.gen [(.str [99,111,108,100]),(.int .i64 1),(.int .i64 0),(.int .i64 (-1)),(.int .i64 1)])),(.agg (.gen [(.str [104,101,97,116]),(.int .i64 1),(.int .i64 (-1)),(.int .i64 2),(.int .i64 50)]))]))]))],(.tup [(.agg (.gen [(.int .i64 0),(.int .i64 0)])),(.int .i64 0)]),none⟩
theorem Zrr:Zan Tryz.prog aw50.f aw50.args aw50.r aw50.fr:=Zab (n:=100000) (l:=[aw1,aw2,aw3,aw4,aw5,aw6,aw7,aw8,aw9,aw10,aw11,aw12,aw13,aw14,aw15,aw16,aw17,aw21,aw22,aw23,aw26,aw27,aw28,aw29,aw30,aw31,aw33,aw34,aw35,aw43,aw44,aw45,aw49]) follows Zad ⟨Znq,⟨ZkG,⟨Zkz,⟨ZuA,⟨ZvC,⟨ZuO,⟨ZtH,⟨Zvf,⟨ZeV,⟨Zr1,⟨Zqq,⟨ZrY,⟨Zse,⟨Zre,⟨Zr9,⟨ZqF,⟨Zsk,⟨Zss,⟨Zsr,⟨ZqQ,⟨Zrw,⟨Zrh,⟨ZqU,⟨ZrH,⟨ZrU,⟨Zsh,⟨ZrR,⟨ZqV,⟨ZrZ,⟨ZrM,⟨ZqP,⟨Zq4,⟨ZsG,trivial⟩⟩⟩⟩⟩⟩⟩⟩⟩⟩⟩⟩⟩⟩⟩⟩⟩⟩⟩⟩⟩⟩⟩⟩⟩⟩⟩⟩⟩⟩⟩⟩⟩ (by kernel_rfl)
def aw51:Fact:=⟨88,[(.agg (.gen [(.list (.big .str [(.str [115,97,102,101]),(.str [99,114,117,105,115,101]),(.str [98,117,114,110])])),(.list (.big (.agg [.str,(.int .i64)]) [(.agg (.gen [(.str [119,97,107,101]),(.int .i64 1)])),(.agg (.gen [(.str [102,105,114,101]),(.int .i64 2)])),(.agg (.gen [(.str [115,116,111,112]),(.int .i64 1)])),(.agg (.gen [(.str [112,105,110,103]),(.int .i64 (-1))]))])),(.list (.big (.agg [.str,(.int .i64),(.int .i64),(.int .i64),(.int .i64)]) [(.agg (.gen [(.str [99,111,108,100]),(.int .i64 1),(.int .i64 0),(.int .i64 (-1)),(.int .i64 1)])),(.agg (.gen [(.str [104,101,97,116]),(.int .i64 1),(.int .i64 (-1)),(.int .i64 2),(.int .i64 50)]))]))]))],(.int .i64 0),none⟩
theorem ZmS:Zan Tryz.prog aw51.f aw51.args aw51.r aw51.fr:=Zab (n:=100000) (l:=[aw50]) follows Zad ⟨Zrr,trivial⟩ (by kernel_rfl)
def aw52:Fact:=⟨82,[(.int .i64 0),(.int .i64 0),(.int .i64 3)],(.bool true),none⟩
theorem Zr5:Zan Tryz.prog aw52.f aw52.args aw52.r aw52.fr:=Zab (n:=100000) (l:=[]) follows Zad trivial (by kernel_rfl)
def aw53:Fact:=⟨68,[(.bool true),(.int .i64 15)],(.int .i64 0),none⟩
theorem Zfx:Zan Tryz.prog aw53.f aw53.args aw53.r aw53.fr:=Zab (n:=100000) (l:=[]) follows Zad trivial (by kernel_rfl)
def aw54:Fact:=⟨82,[(.int .i64 0),(.int .i64 0),(.int .i64 1000000000000)],(.bool true),none⟩
theorem ZqX:Zan Tryz.prog aw54.f aw54.args aw54.r aw54.fr:=Zab (n:=100000) (l:=[]) follows Zad trivial (by kernel_rfl)
def aw55:Fact:=⟨89,[(.int .i64 0)],(.bool true),none⟩
theorem ZnJ:Zan Tryz.prog aw55.f aw55.args aw55.r aw55.fr:=Zab (n:=100000) (l:=[aw54]) follows Zad ⟨ZqX,trivial⟩ (by kernel_rfl)
def aw56:Fact:=⟨82,[(.int .i64 100),(.int .i64 0),(.int .i64 1000000000000)],(.bool true),none⟩
theorem Zrf:Zan Tryz.prog aw56.f aw56.args aw56.r aw56.fr:=Zab (n:=100000) (l:=[]) follows Zad trivial (by kernel_rfl)
def aw57:Fact:=⟨89,[(.int .i64 100)],(.bool true),none⟩
theorem ZqG:Zan Tryz.prog aw57.f aw57.args aw57.r aw57.fr:=Zab (n:=100000) (l:=[aw56]) follows Zad ⟨Zrf,trivial⟩ (by kernel_rfl)
def aw58:Fact:=⟨68,[(.bool true),(.int .i64 9)],(.int .i64 0),none⟩
theorem ZhT:Zan Tryz.prog aw58.f aw58.args aw58.r aw58.fr:=Zab (n:=100000) (l:=[]) follows Zad trivial (by kernel_rfl)
def aw59:Fact:=⟨120,[(.agg (.gen [(.list (.big .str [(.str [115,97,102,101]),(.str [99,114,117,105,115,101]),(.str [98,117,114,110])])),(.list (.big (.agg [.str,(.int .i64)]) [(.agg (.gen [(.str [119,97,107,101]),(.int .i64 1)])),(.agg (.gen [(.str [102,105,114,101]),(.int .i64 2)])),(.agg (.gen [(.str [115,116,111,112]),(.int .i64 1)])),(.agg (.gen [(.str [112,105,110,103]),(.int .i64 (-1))]))])),(.list (.big (.agg [.str,(.int .i64),(.int .i64),(.int .i64),(.int .i64)]) [(.agg (.gen [(.str [99,111,108,100]),(.int .i64 1),(.int .i64 0),(.int .i64 (-1)),(.int .i64 1)])),(.agg (.gen [(.str [104,101,97,116]),(.int .i64 1),(.int .i64 (-1)),(.int .i64 2),(.int .i64 50)]))]))])),(.agg (.gen [(.int .i64 0),(.int .i64 0),(.int .i64 100)]))],(.int .i64 0),none⟩
theorem ZqM:Zan Tryz.prog aw59.f aw59.args aw59.r aw59.fr:=Zab (n:=100000) (l:=[aw52,aw53,aw55,aw57,aw41,aw58,aw9]) follows Zad ⟨Zr5,⟨Zfx,⟨ZnJ,⟨ZqG,⟨Zbp,⟨ZhT,⟨ZeV,trivial⟩⟩⟩⟩⟩⟩⟩ (by kernel_rfl)
def aw60:Fact:=⟨82,[(.int .i64 20),(.int .i64 0),(.int .i64 1000000000000)],(.bool true),none⟩
theorem Zrs:Zan Tryz.prog aw60.f aw60.args aw60.r aw60.fr:=Zab (n:=100000) (l:=[]) follows Zad trivial (by kernel_rfl)
def aw61:Fact:=⟨89,[(.int .i64 20)],(.bool true),none⟩
theorem ZqI:Zan Tryz.prog aw61.f aw61.args aw61.r aw61.fr:=Zab (n:=100000) (l:=[aw60]) follows Zad ⟨Zrs,trivial⟩ (by kernel_rfl)
def aw62:Fact:=⟨82,[(.int .i64 200),(.int .i64 0),(.int .i64 1000000000000)],(.bool true),none⟩
theorem Zru:Zan Tryz.prog aw62.f aw62.args aw62.r aw62.fr:=Zab (n:=100000) (l:=[]) follows Zad trivial (by kernel_rfl)
def aw63:Fact:=⟨89,[(.int .i64 200)],(.bool true),none⟩
theorem ZsS:Zan Tryz.prog aw63.f aw63.args aw63.r aw63.fr:=Zab (n:=100000) (l:=[aw62]) follows Zad ⟨Zru,trivial⟩ (by kernel_rfl)
def aw64:Fact:=⟨120,[(.agg (.gen [(.list (.big .str [(.str [115,97,102,101]),(.str [99,114,117,105,115,101]),(.str [98,117,114,110])])),(.list (.big (.agg [.str,(.int .i64)]) [(.agg (.gen [(.str [119,97,107,101]),(.int .i64 1)])),(.agg (.gen [(.str [102,105,114,101]),(.int .i64 2)])),(.agg (.gen [(.str [115,116,111,112]),(.int .i64 1)])),(.agg (.gen [(.str [112,105,110,103]),(.int .i64 (-1))]))])),(.list (.big (.agg [.str,(.int .i64),(.int .i64),(.int .i64),(.int .i64)]) [(.agg (.gen [(.str [99,111,108,100]),(.int .i64 1),(.int .i64 0),(.int .i64 (-1)),(.int .i64 1)])),(.agg (.gen [(.str [104,101,97,116]),(.int .i64 1),(.int .i64 (-1)),(.int .i64 2),(.int .i64 50)]))]))])),(.agg (.gen [(.int .i64 1),(.int .i64 20),(.int .i64 200)]))],(.int .i64 0),none⟩
theorem Zry:Zan Tryz.prog aw64.f aw64.args aw64.r aw64.fr:=Zab (n:=100000) (l:=[aw36,aw53,aw61,aw63,aw41,aw58,aw9]) follows Zad ⟨Zgk,⟨Zfx,⟨ZqI,⟨ZsS,⟨Zbp,⟨ZhT,⟨ZeV,trivial⟩⟩⟩⟩⟩⟩⟩ (by kernel_rfl)
def aw65:Fact:=⟨82,[(.int .i64 30),(.int .i64 0),(.int .i64 1000000000000)],(.bool true),none⟩
theorem ZsK:Zan Tryz.prog aw65.f aw65.args aw65.r aw65.fr:=Zab (n:=100000) (l:=[]) follows Zad trivial (by kernel_rfl)
def aw66:Fact:=⟨89,[(.int .i64 30)],(.bool true),none⟩
theorem Zsc:Zan Tryz.prog aw66.f aw66.args aw66.r aw66.fr:=Zab (n:=100000) (l:=[aw65]) follows Zad ⟨ZsK,trivial⟩ (by kernel_rfl)
def aw67:Fact:=⟨82,[(.int .i64 300),(.int .i64 0),(.int .i64 1000000000000)],(.bool true),none⟩
theorem ZrJ:Zan Tryz.prog aw67.f aw67.args aw67.r aw67.fr:=Zab (n:=100000) (l:=[]) follows Zad trivial (by kernel_rfl)
def aw68:Fact:=⟨89,[(.int .i64 300)],(.bool true),none⟩
theorem Zrz:Zan Tryz.prog aw68.f aw68.args aw68.r aw68.fr:=Zab (n:=100000) (l:=[aw67]) follows Zad ⟨ZrJ,trivial⟩ (by kernel_rfl)
def aw69:Fact:=⟨120,[(.agg (.gen [(.list (.big .str [(.str [115,97,102,101]),(.str [99,114,117,105,115,101]),(.str [98,117,114,110])])),(.list (.big (.agg [.str,(.int .i64)]) [(.agg (.gen [(.str [119,97,107,101]),(.int .i64 1)])),(.agg (.gen [(.str [102,105,114,101]),(.int .i64 2)])),(.agg (.gen [(.str [115,116,111,112]),(.int .i64 1)])),(.agg (.gen [(.str [112,105,110,103]),(.int .i64 (-1))]))])),(.list (.big (.agg [.str,(.int .i64),(.int .i64),(.int .i64),(.int .i64)]) [(.agg (.gen [(.str [99,111,108,100]),(.int .i64 1),(.int .i64 0),(.int .i64 (-1)),(.int .i64 1)])),(.agg (.gen [(.str [104,101,97,116]),(.int .i64 1),(.int .i64 (-1)),(.int .i64 2),(.int .i64 50)]))]))])),(.agg (.gen [(.int .i64 2),(.int .i64 30),(.int .i64 300)]))],(.int .i64 0),none⟩
theorem Zsv:Zan Tryz.prog aw69.f aw69.args aw69.r aw69.fr:=Zab (n:=100000) (l:=[aw46,aw53,aw66,aw68,aw41,aw58,aw9]) follows Zad ⟨Znr,⟨Zfx,⟨Zsc,⟨Zrz,⟨Zbp,⟨ZhT,⟨ZeV,trivial⟩⟩⟩⟩⟩⟩⟩ (by kernel_rfl)
def aw70:Fact:=⟨82,[(.int .i64 40),(.int .i64 0),(.int .i64 1000000000000)],(.bool true),none⟩
theorem Zrb:Zan Tryz.prog aw70.f aw70.args aw70.r aw70.fr:=Zab (n:=100000) (l:=[]) follows Zad trivial (by kernel_rfl)
def aw71:Fact:=⟨89,[(.int .i64 40)],(.bool true),none⟩
theorem ZsL:Zan Tryz.prog aw71.f aw71.args aw71.r aw71.fr:=Zab (n:=100000) (l:=[aw70]) follows Zad ⟨Zrb,trivial⟩ (by kernel_rfl)
def aw72:Fact:=⟨82,[(.int .i64 400),(.int .i64 0),(.int .i64 1000000000000)],(.bool true),none⟩
theorem Zql:Zan Tryz.prog aw72.f aw72.args aw72.r aw72.fr:=Zab (n:=100000) (l:=[]) follows Zad trivial (by kernel_rfl)
def aw73:Fact:=⟨89,[(.int .i64 400)],(.bool true),none⟩
theorem Zsf:Zan Tryz.prog aw73.f aw73.args aw73.r aw73.fr:=Zab (n:=100000) (l:=[aw72]) follows Zad ⟨Zql,trivial⟩ (by kernel_rfl)
def aw74:Fact:=⟨120,[(.agg (.gen [(.list (.big .str [(.str [115,97,102,101]),(.str [99,114,117,105,115,101]),(.str [98,117,114,110])])),(.list (.big (.agg [.str,(.int .i64)]) [(.agg (.gen [(.str [119,97,107,101]),(.int .i64 1)])),(.agg (.gen [(.str [102,105,114,101]),(.int .i64 2)])),(.agg (.gen [(.str [115,116,111,112]),(.int .i64 1)])),(.agg (.gen [(.str [112,105,110,103]),(.int .i64 (-1))]))])),(.list (.big (.agg [.str,(.int .i64),(.int .i64),(.int .i64),(.int .i64)]) [(.agg (.gen [(.str [99,111,108,100]),(.int .i64 1),(.int .i64 0),(.int .i64 (-1)),(.int .i64 1)])),(.agg (.gen [(.str [104,101,97,116]),(.int .i64 1),(.int .i64 (-1)),(.int .i64 2),(.int .i64 50)]))]))])),(.agg (.gen [(.int .i64 1),(.int .i64 40),(.int .i64 400)]))],(.int .i64 0),none⟩
theorem ZsP:Zan Tryz.prog aw74.f aw74.args aw74.r aw74.fr:=Zab (n:=100000) (l:=[aw36,aw53,aw71,aw73,aw41,aw58,aw9]) follows Zad ⟨Zgk,⟨Zfx,⟨ZsL,⟨Zsf,⟨Zbp,⟨ZhT,⟨ZeV,trivial⟩⟩⟩⟩⟩⟩⟩ (by kernel_rfl)
def aw75:Fact:=⟨71,[(.agg (.gen [(.list (.big .str [(.str [115,97,102,101]),(.str [99,114,117,105,115,101]),(.str [98,117,114,110])])),(.list (.big (.agg [.str,(.int .i64)]) [(.agg (.gen [(.str [119,97,107,101]),(.int .i64 1)])),(.agg (.gen [(.str [102,105,114,101]),(.int .i64 2)])),(.agg (.gen [(.str [115,116,111,112]),(.int .i64 1)])),(.agg (.gen [(.str [112,105,110,103]),(.int .i64 (-1))]))])),(.list (.big (.agg [.str,(.int .i64),(.int .i64),(.int .i64),(.int .i64)]) [(.agg (.gen [(.str [99,111,108,100]),(.int .i64 1),(.int .i64 0),(.int .i64 (-1)),(.int .i64 1)])),(.agg (.gen [(.str [104,101,97,116]),(.int .i64 1),(.int .i64 (-1)),(.int .i64 2),(.int .i64 50)]))]))])),(.list (.big (.agg [(.int .i64),(.int .i64),(.int .i64)]) [(.agg (.gen [(.int .i64 0),(.int .i64 0),(.int .i64 100)])),(.agg (.gen [(.int .i64 1),(.int .i64 20),(.int .i64 200)])),(.agg (.gen [(.int .i64 2),(.int .i64 30),(.int .i64 300)])),(.agg (.gen [(.int .i64 1),(.int .i64 40),(.int .i64 400)]))]))],(.tup [(.int .i64 0),(.int .i64 0)]),none⟩
theorem ZnS:Zan Tryz.prog aw75.f aw75.args aw75.r aw75.fr:=Zab (n:=100000) (l:=[aw51,aw1,aw2,aw9,aw59,aw64,aw69,aw74]) follows Zad ⟨ZmS,⟨Znq,⟨ZkG,⟨ZeV,⟨ZqM,⟨Zry,⟨Zsv,⟨ZsP,trivial⟩⟩⟩⟩⟩⟩⟩⟩ (by kernel_rfl)
def aw76:Fact:=⟨179,[(.int .u64 1),(.int .u64 4)],(.tup [(.int .u64 0),(.int .u64 4)]),none⟩
theorem Zr3:Zan Tryz.prog aw76.f aw76.args aw76.r aw76.fr:=Zab (n:=100000) (l:=[]) follows Zad trivial (by kernel_rfl)
def aw77:Fact:=⟨152,[(.int .u64 1),(.int .u64 4)],(.tup [(.int .u64 0),(.int .u64 4)]),none⟩
theorem ZqR:Zan Tryz.prog aw77.f aw77.args aw77.r aw77.fr:=Zab (n:=100000) (l:=[aw76]) follows Zad ⟨Zr3,trivial⟩ (by kernel_rfl)
def aw78:Fact:=⟨121,[(.list (.ints .i64 [(-1)])),(.int .i64 4)],(.row 0 0),(some ⟨3,1,(.ints .i64 [(-1),(-1),(-1),(-1)])⟩)⟩
theorem ZjP:Zan Tryz.prog aw78.f aw78.args aw78.r aw78.fr:=Zab (n:=100000) (l:=[aw77]) follows Zad ⟨ZqR,trivial⟩ (by kernel_rfl)
def aw79:Fact:=⟨122,[(.eptr (.agg (.gen [(.list (.big .str [(.str [115,97,102,101]),(.str [99,114,117,105,115,101]),(.str [98,117,114,110])])),(.list (.big (.agg [.str,(.int .i64)]) [(.agg (.gen [(.str [119,97,107,101]),(.int .i64 1)])),(.agg (.gen [(.str [102,105,114,101]),(.int .i64 2)])),(.agg (.gen [(.str [115,116,111,112]),(.int .i64 1)])),(.agg (.gen [(.str [112,105,110,103]),(.int .i64 (-1))]))])),(.list (.big (.agg [.str,(.int .i64),(.int .i64),(.int .i64),(.int .i64)]) [(.agg (.gen [(.str [99,111,108,100]),(.int .i64 1),(.int .i64 0),(.int .i64 (-1)),(.int .i64 1)])),(.agg (.gen [(.str [104,101,97,116]),(.int .i64 1),(.int .i64 (-1)),(.int .i64 2),(.int .i64 50)]))])),(.int .i64 0),(.int .i64 0),(.list (.ints .i64 [(-1),(-1),(-1),(-1)]))])) 0),(.agg (.gen [(.str [104,101,97,116]),(.int .i64 1),(.int .i64 (-1)),(.int .i64 2),(.int .i64 50)])),(.int .i64 0)],(.bool false),none⟩
theorem ZsB:Zan Tryz.prog aw79.f aw79.args aw79.r aw79.fr:=Zab (n:=100000) (l:=[]) follows Zad trivial (by kernel_rfl)
def aw80:Fact:=⟨82,[(.int .i64 0),(.int .i64 0),(.int .i64 100)],(.bool true),none⟩
theorem Zso:Zan Tryz.prog aw80.f aw80.args aw80.r aw80.fr:=Zab (n:=100000) (l:=[]) follows Zad trivial (by kernel_rfl)
def aw81:Fact:=⟨91,[(.eptr (.agg (.gen [(.list (.big .str [(.str [115,97,102,101]),(.str [99,114,117,105,115,101]),(.str [98,117,114,110])])),(.list (.big (.agg [.str,(.int .i64)]) [(.agg (.gen [(.str [119,97,107,101]),(.int .i64 1)])),(.agg (.gen [(.str [102,105,114,101]),(.int .i64 2)])),(.agg (.gen [(.str [115,116,111,112]),(.int .i64 1)])),(.agg (.gen [(.str [112,105,110,103]),(.int .i64 (-1))]))])),(.list (.big (.agg [.str,(.int .i64),(.int .i64),(.int .i64),(.int .i64)]) [(.agg (.gen [(.str [99,111,108,100]),(.int .i64 1),(.int .i64 0),(.int .i64 (-1)),(.int .i64 1)])),(.agg (.gen [(.str [104,101,97,116]),(.int .i64 1),(.int .i64 (-1)),(.int .i64 2),(.int .i64 50)]))])),(.int .i64 0),(.int .i64 0),(.list (.ints .i64 [(-1),(-1),(-1),(-1)]))])) 0),(.int .i64 0)],(.val (.pointer none)),none⟩
theorem Zrv:Zan Tryz.prog aw81.f aw81.args aw81.r aw81.fr:=Zab (n:=100000) (l:=[]) follows Zad trivial (by kernel_rfl)
def aw82:Fact:=⟨123,[(.eptr (.agg (.gen [(.list (.big .str [(.str [115,97,102,101]),(.str [99,114,117,105,115,101]),(.str [98,117,114,110])])),(.list (.big (.agg [.str,(.int .i64)]) [(.agg (.gen [(.str [119,97,107,101]),(.int .i64 1)])),(.agg (.gen [(.str [102,105,114,101]),(.int .i64 2)])),(.agg (.gen [(.str [115,116,111,112]),(.int .i64 1)])),(.agg (.gen [(.str [112,105,110,103]),(.int .i64 (-1))]))])),(.list (.big (.agg [.str,(.int .i64),(.int .i64),(.int .i64),(.int .i64)]) [(.agg (.gen [(.str [99,111,108,100]),(.int .i64 1),(.int .i64 0),(.int .i64 (-1)),(.int .i64 1)])),(.agg (.gen [(.str [104,101,97,116]),(.int .i64 1),(.int .i64 (-1)),(.int .i64 2),(.int .i64 50)]))])),(.int .i64 0),(.int .i64 0),(.list (.ints .i64 [(-1),(-1),(-1),(-1)]))])) 0),(.agg (.gen [(.int .i64 0),(.int .i64 0),(.int .i64 100)]))],(.bool true),none⟩
theorem ZjC:Zan Tryz.prog aw82.f aw82.args aw82.r aw82.fr:=Zab (n:=100000) (l:=[aw80,aw81]) follows Zad ⟨Zso,⟨Zrv,trivial⟩⟩ (by kernel_rfl)
def aw83:Fact:=⟨122,[(.eptr (.agg (.gen [(.list (.big .str [(.str [115,97,102,101]),(.str [99,114,117,105,115,101]),(.str [98,117,114,110])])),(.list (.big (.agg [.str,(.int .i64)]) [(.agg (.gen [(.str [119,97,107,101]),(.int .i64 1)])),(.agg (.gen [(.str [102,105,114,101]),(.int .i64 2)])),(.agg (.gen [(.str [115,116,111,112]),(.int .i64 1)])),(.agg (.gen [(.str [112,105,110,103]),(.int .i64 (-1))]))])),(.list (.big (.agg [.str,(.int .i64),(.int .i64),(.int .i64),(.int .i64)]) [(.agg (.gen [(.str [99,111,108,100]),(.int .i64 1),(.int .i64 0),(.int .i64 (-1)),(.int .i64 1)])),(.agg (.gen [(.str [104,101,97,116]),(.int .i64 1),(.int .i64 (-1)),(.int .i64 2),(.int .i64 50)]))])),(.int .i64 1),(.int .i64 20),(.list (.ints .i64 [0,(-1),(-1),(-1)]))])) 0),(.agg (.gen [(.str [104,101,97,116]),(.int .i64 1),(.int .i64 (-1)),(.int .i64 2),(.int .i64 50)])),(.int .i64 1)],(.bool true),none⟩
theorem Zqz:Zan Tryz.prog aw83.f aw83.args aw83.r aw83.fr:=Zab (n:=100000) (l:=[]) follows Zad trivial (by kernel_rfl)
def aw84:Fact:=⟨82,[(.int .i64 20),(.int .i64 20),(.int .i64 200)],(.bool true),none⟩
theorem ZqA:Zan Tryz.prog aw84.f aw84.args aw84.r aw84.fr:=Zab (n:=100000) (l:=[]) follows Zad trivial (by kernel_rfl)
def aw85:Fact:=⟨91,[(.eptr (.agg (.gen [(.list (.big .str [(.str [115,97,102,101]),(.str [99,114,117,105,115,101]),(.str [98,117,114,110])])),(.list (.big (.agg [.str,(.int .i64)]) [(.agg (.gen [(.str [119,97,107,101]),(.int .i64 1)])),(.agg (.gen [(.str [102,105,114,101]),(.int .i64 2)])),(.agg (.gen [(.str [115,116,111,112]),(.int .i64 1)])),(.agg (.gen [(.str [112,105,110,103]),(.int .i64 (-1))]))])),(.list (.big (.agg [.str,(.int .i64),(.int .i64),(.int .i64),(.int .i64)]) [(.agg (.gen [(.str [99,111,108,100]),(.int .i64 1),(.int .i64 0),(.int .i64 (-1)),(.int .i64 1)])),(.agg (.gen [(.str [104,101,97,116]),(.int .i64 1),(.int .i64 (-1)),(.int .i64 2),(.int .i64 50)]))])),(.int .i64 1),(.int .i64 20),(.list (.ints .i64 [0,(-1),(-1),(-1)]))])) 0),(.int .i64 1)],(.val (.pointer none)),none⟩
theorem Zrk:Zan Tryz.prog aw85.f aw85.args aw85.r aw85.fr:=Zab (n:=100000) (l:=[]) follows Zad trivial (by kernel_rfl)
def aw86:Fact:=⟨123,[(.eptr (.agg (.gen [(.list (.big .str [(.str [115,97,102,101]),(.str [99,114,117,105,115,101]),(.str [98,117,114,110])])),(.list (.big (.agg [.str,(.int .i64)]) [(.agg (.gen [(.str [119,97,107,101]),(.int .i64 1)])),(.agg (.gen [(.str [102,105,114,101]),(.int .i64 2)])),(.agg (.gen [(.str [115,116,111,112]),(.int .i64 1)])),(.agg (.gen [(.str [112,105,110,103]),(.int .i64 (-1))]))])),(.list (.big (.agg [.str,(.int .i64),(.int .i64),(.int .i64),(.int .i64)]) [(.agg (.gen [(.str [99,111,108,100]),(.int .i64 1),(.int .i64 0),(.int .i64 (-1)),(.int .i64 1)])),(.agg (.gen [(.str [104,101,97,116]),(.int .i64 1),(.int .i64 (-1)),(.int .i64 2),(.int .i64 50)]))])),(.int .i64 1),(.int .i64 20),(.list (.ints .i64 [0,(-1),(-1),(-1)]))])) 0),(.agg (.gen [(.int .i64 1),(.int .i64 20),(.int .i64 200)]))],(.bool true),none⟩
theorem Zq8:Zan Tryz.prog aw86.f aw86.args aw86.r aw86.fr:=Zab (n:=100000) (l:=[aw84,aw85]) follows Zad ⟨ZqA,⟨Zrk,trivial⟩⟩ (by kernel_rfl)
def aw87:Fact:=⟨122,[(.eptr (.agg (.gen [(.list (.big .str [(.str [115,97,102,101]),(.str [99,114,117,105,115,101]),(.str [98,117,114,110])])),(.list (.big (.agg [.str,(.int .i64)]) [(.agg (.gen [(.str [119,97,107,101]),(.int .i64 1)])),(.agg (.gen [(.str [102,105,114,101]),(.int .i64 2)])),(.agg (.gen [(.str [115,116,111,112]),(.int .i64 1)])),(.agg (.gen [(.str [112,105,110,103]),(.int .i64 (-1))]))])),(.list (.big (.agg [.str,(.int .i64),(.int .i64),(.int .i64),(.int .i64)]) [(.agg (.gen [(.str [99,111,108,100]),(.int .i64 1),(.int .i64 0),(.int .i64 (-1)),(.int .i64 1)])),(.agg (.gen [(.str [104,101,97,116]),(.int .i64 1),(.int .i64 (-1)),(.int .i64 2),(.int .i64 50)]))])),(.int .i64 2),(.int .i64 30),(.list (.ints .i64 [0,20,(-1),(-1)]))])) 0),(.agg (.gen [(.str [104,101,97,116]),(.int .i64 1),(.int .i64 (-1)),(.int .i64 2),(.int .i64 50)])),(.int .i64 2)],(.bool false),none⟩
theorem Zsl:Zan Tryz.prog aw87.f aw87.args aw87.r aw87.fr:=Zab (n:=100000) (l:=[]) follows Zad trivial (by kernel_rfl)
def aw88:Fact:=⟨82,[(.int .i64 30),(.int .i64 30),(.int .i64 300)],(.bool true),none⟩
theorem Zsz:Zan Tryz.prog aw88.f aw88.args aw88.r aw88.fr:=Zab (n:=100000) (l:=[]) follows Zad trivial (by kernel_rfl)
def aw89:Fact:=⟨91,[(.eptr (.agg (.gen [(.list (.big .str [(.str [115,97,102,101]),(.str [99,114,117,105,115,101]),(.str [98,117,114,110])])),(.list (.big (.agg [.str,(.int .i64)]) [(.agg (.gen [(.str [119,97,107,101]),(.int .i64 1)])),(.agg (.gen [(.str [102,105,114,101]),(.int .i64 2)])),(.agg (.gen [(.str [115,116,111,112]),(.int .i64 1)])),(.agg (.gen [(.str [112,105,110,103]),(.int .i64 (-1))]))])),(.list (.big (.agg [.str,(.int .i64),(.int .i64),(.int .i64),(.int .i64)]) [(.agg (.gen [(.str [99,111,108,100]),(.int .i64 1),(.int .i64 0),(.int .i64 (-1)),(.int .i64 1)])),(.agg (.gen [(.str [104,101,97,116]),(.int .i64 1),(.int .i64 (-1)),(.int .i64 2),(.int .i64 50)]))])),(.int .i64 2),(.int .i64 30),(.list (.ints .i64 [0,20,(-1),(-1)]))])) 0),(.int .i64 2)],(.val (.pointer none)),none⟩
theorem ZqN:Zan Tryz.prog aw89.f aw89.args aw89.r aw89.fr:=Zab (n:=100000) (l:=[]) follows Zad trivial (by kernel_rfl)
def aw90:Fact:=⟨123,[(.eptr (.agg (.gen [(.list (.big .str [(.str [115,97,102,101]),(.str [99,114,117,105,115,101]),(.str [98,117,114,110])])),(.list (.big (.agg [.str,(.int .i64)]) [(.agg (.gen [(.str [119,97,107,101]),(.int .i64 1)])),(.agg (.gen [(.str [102,105,114,101]),(.int .i64 2)])),(.agg (.gen [(.str [115,116,111,112]),(.int .i64 1)])),(.agg (.gen [(.str [112,105,110,103]),(.int .i64 (-1))]))])),(.list (.big (.agg [.str,(.int .i64),(.int .i64),(.int .i64),(.int .i64)]) [(.agg (.gen [(.str [99,111,108,100]),(.int .i64 1),(.int .i64 0),(.int .i64 (-1)),(.int .i64 1)])),(.agg (.gen [(.str [104,101,97,116]),(.int .i64 1),(.int .i64 (-1)),(.int .i64 2),(.int .i64 50)]))])),(.int .i64 2),(.int .i64 30),(.list (.ints .i64 [0,20,(-1),(-1)]))])) 0),(.agg (.gen [(.int .i64 2),(.int .i64 30),(.int .i64 300)]))],(.bool true),none⟩
theorem Zrx:Zan Tryz.prog aw90.f aw90.args aw90.r aw90.fr:=Zab (n:=100000) (l:=[aw88,aw89]) follows Zad ⟨Zsz,⟨ZqN,trivial⟩⟩ (by kernel_rfl)
def aw91:Fact:=⟨122,[(.eptr (.agg (.gen [(.list (.big .str [(.str [115,97,102,101]),(.str [99,114,117,105,115,101]),(.str [98,117,114,110])])),(.list (.big (.agg [.str,(.int .i64)]) [(.agg (.gen [(.str [119,97,107,101]),(.int .i64 1)])),(.agg (.gen [(.str [102,105,114,101]),(.int .i64 2)])),(.agg (.gen [(.str [115,116,111,112]),(.int .i64 1)])),(.agg (.gen [(.str [112,105,110,103]),(.int .i64 (-1))]))])),(.list (.big (.agg [.str,(.int .i64),(.int .i64),(.int .i64),(.int .i64)]) [(.agg (.gen [(.str [99,111,108,100]),(.int .i64 1),(.int .i64 0),(.int .i64 (-1)),(.int .i64 1)])),(.agg (.gen [(.str [104,101,97,116]),(.int .i64 1),(.int .i64 (-1)),(.int .i64 2),(.int .i64 50)]))])),(.int .i64 1),(.int .i64 40),(.list (.ints .i64 [0,20,30,(-1)]))])) 0),(.agg (.gen [(.str [104,101,97,116]),(.int .i64 1),(.int .i64 (-1)),(.int .i64 2),(.int .i64 50)])),(.int .i64 1)],(.bool true),none⟩
theorem Zrt:Zan Tryz.prog aw91.f aw91.args aw91.r aw91.fr:=Zab (n:=100000) (l:=[]) follows Zad trivial (by kernel_rfl)
def aw92:Fact:=⟨82,[(.int .i64 80),(.int .i64 40),(.int .i64 400)],(.bool true),none⟩
theorem ZqJ:Zan Tryz.prog aw92.f aw92.args aw92.r aw92.fr:=Zab (n:=100000) (l:=[]) follows Zad trivial (by kernel_rfl)
def aw93:Fact:=⟨91,[(.eptr (.agg (.gen [(.list (.big .str [(.str [115,97,102,101]),(.str [99,114,117,105,115,101]),(.str [98,117,114,110])])),(.list (.big (.agg [.str,(.int .i64)]) [(.agg (.gen [(.str [119,97,107,101]),(.int .i64 1)])),(.agg (.gen [(.str [102,105,114,101]),(.int .i64 2)])),(.agg (.gen [(.str [115,116,111,112]),(.int .i64 1)])),(.agg (.gen [(.str [112,105,110,103]),(.int .i64 (-1))]))])),(.list (.big (.agg [.str,(.int .i64),(.int .i64),(.int .i64),(.int .i64)]) [(.agg (.gen [(.str [99,111,108,100]),(.int .i64 1),(.int .i64 0),(.int .i64 (-1)),(.int .i64 1)])),(.agg (.gen [(.str [104,101,97,116]),(.int .i64 1),(.int .i64 (-1)),(.int .i64 2),(.int .i64 50)]))])),(.int .i64 1),(.int .i64 80),(.list (.ints .i64 [0,20,30,(-1)]))])) 0),(.int .i64 1)],(.val (.pointer none)),none⟩
theorem Zsd:Zan Tryz.prog aw93.f aw93.args aw93.r aw93.fr:=Zab (n:=100000) (l:=[]) follows Zad trivial (by kernel_rfl)
def aw94:Fact:=⟨123,[(.eptr (.agg (.gen [(.list (.big .str [(.str [115,97,102,101]),(.str [99,114,117,105,115,101]),(.str [98,117,114,110])])),(.list (.big (.agg [.str,(.int .i64)]) [(.agg (.gen [(.str [119,97,107,101]),(.int .i64 1)])),(.agg (.gen [(.str [102,105,114,101]),(.int .i64 2)])),(.agg (.gen [(.str [115,116,111,112]),(.int .i64 1)])),(.agg (.gen [(.str [112,105,110,103]),(.int .i64 (-1))]))])),(.list (.big (.agg [.str,(.int .i64),(.int .i64),(.int .i64),(.int .i64)]) [(.agg (.gen [(.str [99,111,108,100]),(.int .i64 1),(.int .i64 0),(.int .i64 (-1)),(.int .i64 1)])),(.agg (.gen [(.str [104,101,97,116]),(.int .i64 1),(.int .i64 (-1)),(.int .i64 2),(.int .i64 50)]))])),(.int .i64 1),(.int .i64 80),(.list (.ints .i64 [0,20,30,(-1)]))])) 0),(.agg (.gen [(.int .i64 1),(.int .i64 40),(.int .i64 400)]))],(.bool true),none⟩
theorem ZrE:Zan Tryz.prog aw94.f aw94.args aw94.r aw94.fr:=Zab (n:=100000) (l:=[aw92,aw93]) follows Zad ⟨ZqJ,⟨Zsd,trivial⟩⟩ (by kernel_rfl)
def aw95:Fact:=⟨24,[(.agg (.gen [(.list (.big .str [(.str [115,97,102,101]),(.str [99,114,117,105,115,101]),(.str [98,117,114,110])])),(.list (.big (.agg [.str,(.int .i64)]) [(.agg (.gen [(.str [119,97,107,101]),(.int .i64 1)])),(.agg (.gen [(.str [102,105,114,101]),(.int .i64 2)])),(.agg (.gen [(.str [115,116,111,112]),(.int .i64 1)])),(.agg (.gen [(.str [112,105,110,103]),(.int .i64 (-1))]))])),(.list (.big (.agg [.str,(.int .i64),(.int .i64),(.int .i64),(.int .i64)]) [(.agg (.gen [(.str [99,111,108,100]),(.int .i64 1),(.int .i64 0),(.int .i64 (-1)),(.int .i64 1)])),(.agg (.gen [(.str [104,101,97,116]),(.int .i64 1),(.int .i64 (-1)),(.int .i64 2),(.int .i64 50)]))]))])),(.list (.big (.agg [(.int .i64),(.int .i64),(.int .i64)]) [(.agg (.gen [(.int .i64 0),(.int .i64 0),(.int .i64 100)])),(.agg (.gen [(.int .i64 1),(.int .i64 20),(.int .i64 200)])),(.agg (.gen [(.int .i64 2),(.int .i64 30),(.int .i64 300)])),(.agg (.gen [(.int .i64 1),(.int .i64 40),(.int .i64 400)]))]))],(.tup [(.row 0 0),(.int .i64 0)]),(some ⟨3,1,(.ints .i64 [0,20,30,80])⟩)⟩
theorem Zsu:Zan Tryz.prog aw95.f aw95.args aw95.r aw95.fr:=Zab (n:=100000) (l:=[aw75,aw78,aw79,aw82,aw83,aw86,aw87,aw90,aw91,aw94]) follows Zad ⟨ZnS,⟨ZjP,⟨ZsB,⟨ZjC,⟨Zqz,⟨Zq8,⟨Zsl,⟨Zrx,⟨Zrt,⟨ZrE,trivial⟩⟩⟩⟩⟩⟩⟩⟩⟩⟩ (by kernel_rfl)
def aw96:Fact:=⟨87,[(.int .i64 (-1)),(.eptr (.agg (.gen [(.int .i64 0),(.int .i64 0),(.list (.ints .i64 [(-1),(-1),(-1),(-1)]))])) 0)],(.bool false),none⟩
theorem Zra:Zan Tryz.prog aw96.f aw96.args aw96.r aw96.fr:=Zab (n:=100000) (l:=[]) follows Zad trivial (by kernel_rfl)
def aw97:Fact:=⟨137,[(.list (.ints .i64 [(-1),(-1),(-1),(-1)])),(.fn 87 [(.eptr (.agg (.gen [(.int .i64 0),(.int .i64 0),(.list (.ints .i64 [(-1),(-1),(-1),(-1)]))])) 0)])],(.int .i64 (-1)),none⟩
theorem ZsF:Zan Tryz.prog aw97.f aw97.args aw97.r aw97.fr:=Zab (n:=100000) (l:=[aw96]) follows Zad ⟨Zra,trivial⟩ (by kernel_rfl)
def aw98:Fact:=⟨90,[(.list (.ints .i64 [(-1),(-1),(-1),(-1)])),(.fn 87 [(.eptr (.agg (.gen [(.int .i64 0),(.int .i64 0),(.list (.ints .i64 [(-1),(-1),(-1),(-1)]))])) 0)])],(.bool false),none⟩
theorem Zqv:Zan Tryz.prog aw98.f aw98.args aw98.r aw98.fr:=Zab (n:=100000) (l:=[aw97]) follows Zad ⟨ZsF,trivial⟩ (by kernel_rfl)
def aw99:Fact:=⟨67,[(.list (.ints .i64 [0,0,0,0,0,0]))],(.int .i64 0),none⟩
theorem ZsA:Zan Tryz.prog aw99.f aw99.args aw99.r aw99.fr:=Zab (n:=100000) (l:=[]) follows Zad trivial (by kernel_rfl)
def aw100:Fact:=⟨42,[(.agg (.gen [(.list (.big .str [(.str [115,97,102,101]),(.str [99,114,117,105,115,101]),(.str [98,117,114,110])])),(.list (.big (.agg [.str,(.int .i64)]) [(.agg (.gen [(.str [119,97,107,101]),(.int .i64 1)])),(.agg (.gen [(.str [102,105,114,101]),(.int .i64 2)])),(.agg (.gen [(.str [115,116,111,112]),(.int .i64 1)])),(.agg (.gen [(.str [112,105,110,103]),(.int .i64 (-1))]))])),(.list (.big (.agg [.str,(.int .i64),(.int .i64),(.int .i64),(.int .i64)]) [(.agg (.gen [(.str [99,111,108,100]),(.int .i64 1),(.int .i64 0),(.int .i64 (-1)),(.int .i64 1)])),(.agg (.gen [(.str [104,101,97,116]),(.int .i64 1),(.int .i64 (-1)),(.int .i64 2),(.int .i64 50)]))]))])),(.agg (.gen [(.int .i64 0),(.int .i64 0),(.list (.ints .i64 [(-1),(-1),(-1),(-1)]))])),(.int .i64 1)],(.tup [(.str [99,111,108,100]),(.int .i64 0)]),none⟩
theorem ZoX:Zan Tryz.prog aw100.f aw100.args aw100.r aw100.fr:=Zab (n:=100000) (l:=[aw51,aw37,aw20,aw55,aw41,aw1,aw98,aw36,aw53,aw99]) follows Zad ⟨ZmS,⟨ZmK,⟨Zcj,⟨ZnJ,⟨Zbp,⟨Znq,⟨Zqv,⟨Zgk,⟨Zfx,⟨ZsA,trivial⟩⟩⟩⟩⟩⟩⟩⟩⟩⟩ (by kernel_rfl)
def aw101:Fact:=⟨82,[(.int .i64 2),(.int .i64 1),(.int .i64 6)],(.bool true),none⟩
theorem Zpk:Zan Tryz.prog aw101.f aw101.args aw101.r aw101.fr:=Zab (n:=100000) (l:=[]) follows Zad trivial (by kernel_rfl)
def aw102:Fact:=⟨36,[(.agg (.gen [(.list (.big .str [(.str [115,97,102,101]),(.str [99,114,117,105,115,101]),(.str [98,117,114,110])])),(.list (.big (.agg [.str,(.int .i64)]) [(.agg (.gen [(.str [119,97,107,101]),(.int .i64 1)])),(.agg (.gen [(.str [102,105,114,101]),(.int .i64 2)])),(.agg (.gen [(.str [115,116,111,112]),(.int .i64 1)])),(.agg (.gen [(.str [112,105,110,103]),(.int .i64 (-1))]))])),(.list (.big (.agg [.str,(.int .i64),(.int .i64),(.int .i64),(.int .i64)]) [(.agg (.gen [(.str [99,111,108,100]),(.int .i64 1),(.int .i64 0),(.int .i64 (-1)),(.int .i64 1)])),(.agg (.gen [(.str [104,101,97,116]),(.int .i64 1),(.int .i64 (-1)),(.int .i64 2),(.int .i64 50)]))])),(.list (.big (.agg [(.int .i64),(.int .i64),(.int .i64)]) [(.agg (.gen [(.int .i64 0),(.int .i64 0),(.int .i64 100)])),(.agg (.gen [(.int .i64 1),(.int .i64 20),(.int .i64 200)])),(.agg (.gen [(.int .i64 2),(.int .i64 30),(.int .i64 300)])),(.agg (.gen [(.int .i64 1),(.int .i64 40),(.int .i64 400)]))])),(.int .i64 2),(.int .i64 2)]))],(.int .i64 0),none⟩
theorem Zkv:Zan Tryz.prog aw102.f aw102.args aw102.r aw102.fr:=Zab (n:=100000) (l:=[aw75,aw101,aw41,aw3]) follows Zad ⟨ZnS,⟨Zpk,⟨Zbp,⟨Zkz,trivial⟩⟩⟩⟩ (by kernel_rfl)
def aw103:Fact:=⟨83,[],(.agg (.gen [(.str [112,97,115,115]),(.int .i64 1),(.int .i64 1000000000000),(.fn 127 []),(.str [115,101,110,100]),(.int .i64 0),(.int .i64 11),(.fn 128 []),(.str [97,114,114,105,118,101]),(.int .i64 0),(.int .i64 5),(.fn 129 []),(.str [104,101,97,114]),(.int .i64 0),(.int .i64 5),(.fn 130 []),(.str [108,111,115,101]),(.int .i64 0),(.int .i64 5),(.fn 131 []),(.str [100,114,111,112]),(.int .i64 0),(.int .i64 5),(.fn 132 []),(.str [114,101,112,101,97,116]),(.int .i64 0),(.int .i64 5),(.fn 133 []),(.str [114,101,115,116,97,114,116]),(.int .i64 0),(.int .i64 0),(.fn 134 []),(.str [114,101,98,111,111,116]),(.int .i64 0),(.int .i64 0),(.fn 135 [])])),none⟩
theorem ZbT:Zan Tryz.prog aw103.f aw103.args aw103.r aw103.fr:=Zab (n:=100000) (l:=[]) follows Zad trivial (by kernel_rfl)
def aw104:Fact:=⟨82,[(.int .i64 1),(.int .i64 0),(.int .i64 8)],(.bool true),none⟩
theorem Zoh:Zan Tryz.prog aw104.f aw104.args aw104.r aw104.fr:=Zab (n:=100000) (l:=[]) follows Zad trivial (by kernel_rfl)
def aw105:Fact:=⟨82,[(.int .i64 0),(.int .i64 0),(.int .i64 11)],(.bool true),none⟩
theorem ZoJ:Zan Tryz.prog aw105.f aw105.args aw105.r aw105.fr:=Zab (n:=100000) (l:=[]) follows Zad trivial (by kernel_rfl)
def aw106:Fact:=⟨37,[(.agg (.gen [(.int .i64 1),(.int .i64 0)]))],(.int .i64 0),none⟩
theorem Zk5:Zan Tryz.prog aw106.f aw106.args aw106.r aw106.fr:=Zab (n:=100000) (l:=[aw103,aw104,aw105,aw41]) follows Zad ⟨ZbT,⟨Zoh,⟨ZoJ,⟨Zbp,trivial⟩⟩⟩⟩ (by kernel_rfl)
def aw107:Fact:=⟨68,[(.bool true),(.int .i64 21)],(.int .i64 0),none⟩
theorem Zkn:Zan Tryz.prog aw107.f aw107.args aw107.r aw107.fr:=Zab (n:=100000) (l:=[]) follows Zad trivial (by kernel_rfl)
def aw108:Fact:=⟨82,[(.int .i64 0),(.int .i64 0),(.int .i64 1)],(.bool true),none⟩
theorem ZkF:Zan Tryz.prog aw108.f aw108.args aw108.r aw108.fr:=Zab (n:=100000) (l:=[]) follows Zad trivial (by kernel_rfl)
def aw109:Fact:=⟨68,[(.bool true),(.int .i64 26)],(.int .i64 0),none⟩
theorem Zk0:Zan Tryz.prog aw109.f aw109.args aw109.r aw109.fr:=Zab (n:=100000) (l:=[]) follows Zad trivial (by kernel_rfl)
def aw110:Fact:=⟨68,[(.bool true),(.int .i64 16)],(.int .i64 0),none⟩
theorem Zkt:Zan Tryz.prog aw110.f aw110.args aw110.r aw110.fr:=Zab (n:=100000) (l:=[]) follows Zad trivial (by kernel_rfl)
def aw111:Fact:=⟨67,[(.list (.ints .i64 [0,0,0,0]))],(.int .i64 0),none⟩
theorem ZkO:Zan Tryz.prog aw111.f aw111.args aw111.r aw111.fr:=Zab (n:=100000) (l:=[]) follows Zad trivial (by kernel_rfl)
def aw112:Fact:=⟨82,[(.int .i64 2),(.int .i64 0),(.int .i64 8)],(.bool true),none⟩
theorem Zow:Zan Tryz.prog aw112.f aw112.args aw112.r aw112.fr:=Zab (n:=100000) (l:=[]) follows Zad trivial (by kernel_rfl)
def aw113:Fact:=⟨82,[(.int .i64 0),(.int .i64 0),(.int .i64 5)],(.bool true),none⟩
theorem ZhZ:Zan Tryz.prog aw113.f aw113.args aw113.r aw113.fr:=Zab (n:=100000) (l:=[]) follows Zad trivial (by kernel_rfl)
def aw114:Fact:=⟨37,[(.agg (.gen [(.int .i64 2),(.int .i64 0)]))],(.int .i64 0),none⟩
theorem Zk6:Zan Tryz.prog aw114.f aw114.args aw114.r aw114.fr:=Zab (n:=100000) (l:=[aw103,aw112,aw113,aw41]) follows Zad ⟨ZbT,⟨Zow,⟨ZhZ,⟨Zbp,trivial⟩⟩⟩⟩ (by kernel_rfl)
def aw115:Fact:=⟨82,[(.int .i64 5),(.int .i64 0),(.int .i64 8)],(.bool true),none⟩
theorem Zoj:Zan Tryz.prog aw115.f aw115.args aw115.r aw115.fr:=Zab (n:=100000) (l:=[]) follows Zad trivial (by kernel_rfl)
def aw116:Fact:=⟨37,[(.agg (.gen [(.int .i64 5),(.int .i64 0)]))],(.int .i64 0),none⟩
theorem Zkx:Zan Tryz.prog aw116.f aw116.args aw116.r aw116.fr:=Zab (n:=100000) (l:=[aw103,aw115,aw113,aw41]) follows Zad ⟨ZbT,⟨Zoj,⟨ZhZ,⟨Zbp,trivial⟩⟩⟩⟩ (by kernel_rfl)
def aw117:Fact:=⟨82,[(.int .i64 3),(.int .i64 0),(.int .i64 8)],(.bool true),none⟩
theorem Zo1:Zan Tryz.prog aw117.f aw117.args aw117.r aw117.fr:=Zab (n:=100000) (l:=[]) follows Zad trivial (by kernel_rfl)
def aw118:Fact:=⟨37,[(.agg (.gen [(.int .i64 3),(.int .i64 0)]))],(.int .i64 0),none⟩
theorem Zk8:Zan Tryz.prog aw118.f aw118.args aw118.r aw118.fr:=Zab (n:=100000) (l:=[aw103,aw117,aw113,aw41]) follows Zad ⟨ZbT,⟨Zo1,⟨ZhZ,⟨Zbp,trivial⟩⟩⟩⟩ (by kernel_rfl)
def aw119:Fact:=⟨15,[(.agg (.gen [(.list (.big .str [(.str [115,97,102,101]),(.str [99,114,117,105,115,101]),(.str [98,117,114,110])])),(.list (.big (.agg [.str,(.int .i64)]) [(.agg (.gen [(.str [119,97,107,101]),(.int .i64 1)])),(.agg (.gen [(.str [102,105,114,101]),(.int .i64 2)])),(.agg (.gen [(.str [115,116,111,112]),(.int .i64 1)])),(.agg (.gen [(.str [112,105,110,103]),(.int .i64 (-1))]))])),(.list (.big (.agg [.str,(.int .i64),(.int .i64),(.int .i64),(.int .i64)]) [(.agg (.gen [(.str [99,111,108,100]),(.int .i64 1),(.int .i64 0),(.int .i64 (-1)),(.int .i64 1)])),(.agg (.gen [(.str [104,101,97,116]),(.int .i64 1),(.int .i64 (-1)),(.int .i64 2),(.int .i64 50)]))])),(.list (.big (.agg [(.int .i64),(.int .i64),(.int .i64)]) [(.agg (.gen [(.int .i64 0),(.int .i64 0),(.int .i64 100)])),(.agg (.gen [(.int .i64 1),(.int .i64 20),(.int .i64 200)])),(.agg (.gen [(.int .i64 2),(.int .i64 30),(.int .i64 300)])),(.agg (.gen [(.int .i64 1),(.int .i64 40),(.int .i64 400)]))])),(.int .i64 2),(.int .i64 2)])),(.list (.big (.agg [(.int .i64),(.int .i64)]) [(.agg (.gen [(.int .i64 1),(.int .i64 0)])),(.agg (.gen [(.int .i64 2),(.int .i64 0)])),(.agg (.gen [(.int .i64 5),(.int .i64 0)])),(.agg (.gen [(.int .i64 1),(.int .i64 0)])),(.agg (.gen [(.int .i64 2),(.int .i64 0)])),(.agg (.gen [(.int .i64 3),(.int .i64 0)]))]))],(.tup [(.agg (.gen [(.int .i64 0),(.int .i64 1),(.list (.big (.agg [(.int .i64),(.int .i64)]) [(.agg (.gen [(.int .i64 0),(.int .i64 0)]))])),(.bool false),(.int .i64 1),(.bool false),(.list (.ints .i64 [])),(.list (.big (.agg [(.int .i64), .bool]) []))])),(.int .i64 0),(.int .i64 0)]),none⟩
theorem ZoZ:Zan Tryz.prog aw119.f aw119.args aw119.r aw119.fr:=Zks (n:=100000) (d:=3) (l:=[aw102,aw2,aw3,aw78,aw106,aw103,aw20,aw107,aw108,aw109,aw110,aw111,aw114,aw82,aw116,aw118]) follows Zad ⟨Zkv,⟨ZkG,⟨Zkz,⟨ZjP,⟨Zk5,⟨ZbT,⟨Zcj,⟨Zkn,⟨ZkF,⟨Zk0,⟨Zkt,⟨ZkO,⟨Zk6,⟨ZjC,⟨Zkx,⟨Zk8,trivial⟩⟩⟩⟩⟩⟩⟩⟩⟩⟩⟩⟩⟩⟩⟩⟩ (by kernel_rfl)
def aw120:Fact:=⟨29,[(.list (.ints .i64 [0,20,30,80])),(.list (.ints .i64 [0,20,30,80]))],(.bool true),none⟩
theorem Zoo:Zan Tryz.prog aw120.f aw120.args aw120.r aw120.fr:=Zab (n:=100000) (l:=[]) follows Zad trivial (by kernel_rfl)
def aw121:Fact:=⟨22,[(.list (.big (.agg [(.int .i64),(.int .i64)]) [(.agg (.gen [(.int .i64 0),(.int .i64 0)]))])),(.list (.big (.agg [(.int .i64),(.int .i64)]) [(.agg (.gen [(.int .i64 0),(.int .i64 0)]))]))],(.bool true),none⟩
theorem Zpo:Zan Tryz.prog aw121.f aw121.args aw121.r aw121.fr:=Zab (n:=100000) (l:=[]) follows Zad trivial (by kernel_rfl)
def aw122:Fact:=⟨82,[(.int .i64 0),(.int .i64 0),(.int .i64 8)],(.bool true),none⟩
theorem Zo4:Zan Tryz.prog aw122.f aw122.args aw122.r aw122.fr:=Zab (n:=100000) (l:=[]) follows Zad trivial (by kernel_rfl)
def aw123:Fact:=⟨198,[(.int .i64 20)],(.str [50,48]),none⟩
theorem ZoK:Zan Tryz.prog aw123.f aw123.args aw123.r aw123.fr:=Zab (n:=100000) (l:=[]) follows Zad trivial (by kernel_rfl)
def aw124:Fact:=⟨183,[(.int .i64 20),(.int .i64 10)],(.str [50,48]),none⟩
theorem Zok:Zan Tryz.prog aw124.f aw124.args aw124.r aw124.fr:=Zab (n:=100000) (l:=[aw123]) follows Zad ⟨ZoK,trivial⟩ (by kernel_rfl)
def aw125:Fact:=⟨166,[(.int .i64 20)],(.str [50,48]),none⟩
theorem ZoN:Zan Tryz.prog aw125.f aw125.args aw125.r aw125.fr:=Zab (n:=100000) (l:=[aw124]) follows Zad ⟨Zok,trivial⟩ (by kernel_rfl)
def aw126:Fact:=⟨138,[(.int .i64 20)],(.str [50,48]),none⟩
theorem ZoH:Zan Tryz.prog aw126.f aw126.args aw126.r aw126.fr:=Zab (n:=100000) (l:=[aw125]) follows Zad ⟨ZoN,trivial⟩ (by kernel_rfl)
def aw127:Fact:=⟨113,[(.list (.big .str [(.str [50,48])])),(.str [32])],(.str [50,48]),none⟩
theorem Zpf:Zan Tryz.prog aw127.f aw127.args aw127.r aw127.fr:=Zab (n:=100000) (l:=[]) follows Zad trivial (by kernel_rfl)
def aw128:Fact:=⟨105,[(.list (.ints .i64 [20]))],(.str [50,48]),none⟩
theorem Zod:Zan Tryz.prog aw128.f aw128.args aw128.r aw128.fr:=Zab (n:=100000) (l:=[aw126,aw127]) follows Zad ⟨ZoH,⟨Zpf,trivial⟩⟩ (by kernel_rfl)
def aw129:Fact:=⟨53,[(.agg (.gen [(.int .i64 0),(.int .i64 20)]))],(.str [112,97,115,115,32,50,48]),none⟩
theorem ZoT:Zan Tryz.prog aw129.f aw129.args aw129.r aw129.fr:=Zab (n:=100000) (l:=[aw103,aw122,aw128]) follows Zad ⟨ZbT,⟨Zo4,⟨Zod,trivial⟩⟩⟩ (by kernel_rfl)
def aw130:Fact:=⟨13,[],(.bool true),none⟩
theorem ZpA:Zan Tryz.prog aw130.f aw130.args aw130.r aw130.fr:=Zks (n:=100000) (d:=3) (l:=[aw0,aw95,aw100,aw119,aw102,aw2,aw3,aw78,aw106,aw103,aw20,aw107,aw108,aw109,aw110,aw111,aw114,aw82,aw116,aw118,aw120,aw121,aw129]) follows Zad ⟨ZvE,⟨Zsu,⟨ZoX,⟨ZoZ,⟨Zkv,⟨ZkG,⟨Zkz,⟨ZjP,⟨Zk5,⟨ZbT,⟨Zcj,⟨Zkn,⟨ZkF,⟨Zk0,⟨Zkt,⟨ZkO,⟨Zk6,⟨ZjC,⟨Zkx,⟨Zk8,⟨Zoo,⟨Zpo,⟨ZoT,trivial⟩⟩⟩⟩⟩⟩⟩⟩⟩⟩⟩⟩⟩⟩⟩⟩⟩⟩⟩⟩⟩⟩⟩ (by kernel_rfl)
theorem awake_ok:Zan Tryz.prog aw130.f aw130.args aw130.r aw130.fr:=ZpA
end Go.Proofs.YtkeoeooghhjibaaGreatDoor
/- Contracts as a list. No condition. -/
namespace Go.Proofs.YtkeoeooghhjibaaGreatDoor
def pI:AV→Int
 | .tup [.int _ i,_]=>i
 |_=>0
def pE:AV→Int
 | .tup [_, .int _ e]=>e
 |_=>0
def isP(v:AV):Prop:=∃i e,v=Zvt i e
theorem isP.eq{v:AV}(h:isP v):v=Zvt (pI v) (pE v):=by
 obtain⟨i,e,rfl⟩:=h
 rfl
def k13:Ctr:=⟨13,0,fun _ a=>match a with |[]=>some (true, .bool true,none) |_=>none⟩
theorem ZtU:k13.OK Tryz.prog:=fun pa args r fr h=>by
 simp only[k13]at h
 split at h
 ·cases h
  exact awake_ok
 ·cases h
def B8:List Ctr:=[k13]++B7
theorem Zm5:Zaq Tryz.prog B8:=⟨ZtU,Zxd⟩
end Go.Proofs.YtkeoeooghhjibaaGreatDoor
/- Paths of functions, printed by the explorer (Gx). No condition. -/
namespace Go.Proofs.YtkeoeooghhjibaaGreatDoor
set_option maxRecDepth 100000
set_option linter.unusedVariables false
def Zvz(ek en:Int):AFrame:={ fn:=38,N:=35,env:=[(0,AV.agg (Row.gen [.int .i64 ek, .int .i64 en]))],todo:=[.code a38.code],defs:=[],rnd:=none,ret:=false,res:=[ARes.tmp 2] }
def ZAA(ek en:Int):List AFrame:=[(Zvz ek en)]
theorem Zqy(ek en:Int):Zaz tab 38 [AV.agg (Row.gen [.int .i64 ek, .int .i64 en])]=some (Zvz ek en):=rfl
def Zmq(A:Ar)(K:KT)(F:FT)(ek en:Int):Prop:=bB (A.not (Zae ek 0 8)) (F (AV.int .i64 15) (none)) (bB (A.eq ek 0) (bB (A.eq ek 1) (rB [A.eq ek 0] (bB (A.not (Zae en 1 11)) (F (AV.int .i64 2) (none)) (rB [A.eq ek 0] (rB [!A.not true] (F (AV.int .i64 0) (none)))))) (rB [A.eq ek 0] (bB (A.not (Zae en 1 1000000000000)) (F (AV.int .i64 2) (none)) (rB [A.eq ek 0] (rB [!A.not true] (F (AV.int .i64 0) (none))))))) (bB (A.eq ek 1) (rB [!A.eq ek 0] (rB [A.eq ek 1] (bB (A.not (Zae en 0 11)) (F (AV.int .i64 2) (none)) (rB [!A.eq ek 0] (rB [A.eq ek 1] (rB [!A.not true] (F (AV.int .i64 0) (none)))))))) (rB [!A.eq ek 0] (rB [!A.eq ek 1] (bB (Zae ek 2 6) (bB (A.not (Zae en 0 5)) (F (AV.int .i64 2) (none)) (rB [!A.eq ek 0] (rB [!A.eq ek 1] (rB [!A.not (Zae ek 2 6)] (F (AV.int .i64 0) (none)))))) (rB [!A.eq ek 0] (rB [!A.eq ek 1] (rB [A.not (Zae ek 2 6)] (bB (A.not (A.eq en 0)) (F (AV.int .i64 3) (none)) (F (AV.int .i64 0) (none)))))))))))
theorem Zyk{A:Ar}{K:KT}{F:FT}{M:MT}{ek en:Int} :ZaE A tab B8 38 K F M (.run 13 (.tf (.run 5 (.fn)) (.run 13 (.tf (.run 11 (.tf (.run 18 (.ty (.ty (.ty (.run 1 (.ty (.ty (.ty (.run 6 (.ty (.ty (.ty (.ty (.ty (.ty (.ty (.run 2 (.tf (.run 5 (.fn)) (.run 16 (.ty (.ty (.ty (.run 1 (.ty (.ty (.ty (.run 7 (.fy (.fy (.fy (.fy (.run 2 (.fy (.run 6 (.fn))))))))))))))))))))))))))))))))))) (.run 16 (.ty (.ty (.ty (.run 1 (.ty (.ty (.ty (.run 6 (.ty (.ty (.ty (.ty (.ty (.ty (.ty (.run 2 (.tf (.run 5 (.fn)) (.run 16 (.ty (.ty (.ty (.run 1 (.ty (.ty (.ty (.run 7 (.fy (.fy (.fy (.fy (.run 2 (.fy (.run 6 (.fn))))))))))))))))))))))))))))))))))))) (.run 8 (.tf (.run 18 (.fy (.fy (.fy (.run 1 (.ty (.ty (.ty (.run 6 (.ty (.ty (.ty (.ty (.ty (.ty (.ty (.run 2 (.tf (.run 5 (.fn)) (.run 16 (.fy (.fy (.fy (.run 1 (.ty (.ty (.ty (.run 7 (.fy (.fy (.fy (.fy (.run 2 (.fy (.run 6 (.fn))))))))))))))))))))))))))))))))))) (.run 16 (.fy (.fy (.fy (.run 1 (.fy (.fy (.run 12 (.fy (.run 6 (.tf (.ty (.ty (.ty (.ty (.ty (.ty (.run 2 (.tf (.run 5 (.fn)) (.run 16 (.fy (.fy (.fy (.run 1 (.fy (.fy (.run 12 (.fy (.run 7 (.fy (.fy (.fy (.fy (.run 2 (.fy (.run 6 (.fn)))))))))))))))))))))))))) (.fy (.fy (.fy (.fy (.fy (.fy (.run 2 (.fy (.run 16 (.fy (.fy (.fy (.run 1 (.fy (.fy (.run 12 (.fy (.run 7 (.ty (.ty (.ty (.ty (.run 2 (.tf (.run 5 (.fn)) (.run 6 (.fn))))))))))))))))))))))))))))))))))))))))))) (ZAA ek en) []=Zmq A K F ek en:=by kernel_rfl
def Zwi(n:Int):AFrame:={ fn:=84,N:=13,env:=[(0,AV.int .i64 n)],todo:=[.code a84.code],defs:=[],rnd:=none,ret:=false,res:=[ARes.tmp 2] }
def ZA0(n:Int):List AFrame:=[(Zwi n)]
theorem Zrg(n:Int):Zaz tab 84 [AV.int .i64 n]=some (Zwi n):=rfl
def ZvS(A:Ar)(K:KT)(F:FT)(n:Int):Prop:=bB (A.eq n 0) (F (AV.bool true) (none)) (bB (A.eq n 1) (F (AV.bool true) (none)) (F (AV.bool (Zae n 2 6)) (none)))
theorem Zxm{A:Ar}{K:KT}{F:FT}{M:MT}{n:Int} :ZaE A tab B8 84 K F M (.run 9 (.tf (.ty (.ty (.run 1 (.ty (.ty (.ty (.run 4 (.fn)))))))) (.fy (.fy (.run 1 (.tf (.ty (.ty (.run 4 (.fn)))) (.fy (.run 12 (.fy (.run 4 (.fn))))))))))) (ZA0 n) []=ZvS A K F n:=by kernel_rfl
def ZvV(n:Int):AFrame:={ fn:=97,N:=5,env:=[(0,AV.int .i64 n)],todo:=[.code a97.code],defs:=[],rnd:=none,ret:=false,res:=[ARes.tmp 2] }
def ZCe(n:Int):List AFrame:=[(ZvV n)]
theorem ZqK(n:Int):Zaz tab 97 [AV.int .i64 n]=some (ZvV n):=rfl
def ZuQ(A:Ar)(K:KT)(F:FT)(n:Int):Prop:=F (AV.bool (Zae n 2 6)) (none)
theorem ZxD{A:Ar}{K:KT}{F:FT}{M:MT}{n:Int} :ZaE A tab B8 97 K F M (.run 11 (.fn)) (ZCe n) []=ZuQ A K F n:=by kernel_rfl
def ZuE(ek en:Int):AFrame:={ fn:=37,N:=29,env:=[(0,AV.agg (Row.gen [.int .i64 ek, .int .i64 en]))],todo:=[.code a37.code],defs:=[],rnd:=none,ret:=false,res:=[ARes.tmp 2] }
def ZAt(ek en:Int):List AFrame:=[(ZuE ek en)]
theorem ZsQ(ek en:Int):Zaz tab 37 [AV.agg (Row.gen [.int .i64 ek, .int .i64 en])]=some (ZuE ek en):=rfl
def ZfQ(A:Ar)(K:KT)(F:FT)(ek en:Int):Prop:=bB (A.not (Zae ek 0 8)) (F (AV.int .i64 15) (none)) (qB [A.eq ek 0] (rB [!A.eq 1000000000000 0] (F (AV.int .i64 (Zat (Zae en 1 1000000000000) 2)) (none))) (qB [A.eq ek (Int.ofNat 1)] (rB [!A.eq 11 0] (F (AV.int .i64 (Zat (Zae en 0 11) 2)) (none))) (qB [A.eq ek (Int.ofNat 2)] (rB [!A.eq 5 0] (F (AV.int .i64 (Zat (Zae en 0 5) 2)) (none))) (qB [A.eq ek (Int.ofNat 3)] (rB [!A.eq 5 0] (F (AV.int .i64 (Zat (Zae en 0 5) 2)) (none))) (qB [A.eq ek (Int.ofNat 4)] (rB [!A.eq 5 0] (F (AV.int .i64 (Zat (Zae en 0 5) 2)) (none))) (qB [A.eq ek (Int.ofNat 5)] (rB [!A.eq 5 0] (F (AV.int .i64 (Zat (Zae en 0 5) 2)) (none))) (qB [A.eq ek (Int.ofNat 6)] (rB [!A.eq 5 0] (F (AV.int .i64 (Zat (Zae en 0 5) 2)) (none))) (qB [A.eq ek (Int.ofNat 7)] (rB [A.eq 0 0] (F (AV.int .i64 (Zat (A.eq en 0) 3)) (none))) (rB [A.eq ek (Int.ofNat 8)] (rB [A.eq 0 0] (F (AV.int .i64 (Zat (A.eq en 0) 3)) (none))))))))))))
theorem ZyB{A:Ar}{K:KT}{F:FT}{M:MT}{ek en:Int} :ZaE A tab B8 37 K F M (.run 40 (.tf (.run 5 (.fn)) (.run 5 (.alt [true] (.run 11 (.fy (.run 15 (.fn)))) (.alt [false,true] (.run 11 (.fy (.run 15 (.fn)))) (.alt [false,false,true] (.run 11 (.fy (.run 15 (.fn)))) (.alt [false,false,false,true] (.run 11 (.fy (.run 15 (.fn)))) (.alt [false,false,false,false,true] (.run 11 (.fy (.run 15 (.fn)))) (.alt [false,false,false,false,false,true] (.run 11 (.fy (.run 15 (.fn)))) (.alt [false,false,false,false,false,false,true] (.run 11 (.fy (.run 15 (.fn)))) (.alt [false,false,false,false,false,false,false,true] (.run 11 (.ty (.run 9 (.fn)))) (.alt [false,false,false,false,false,false,false,false,true] (.run 11 (.ty (.run 9 (.fn)))) (.no))))))))))))) (ZAt ek en) []=ZfQ A K F ek en:=by kernel_rfl
end Go.Proofs.YtkeoeooghhjibaaGreatDoor
/- Contracts as a list. No condition. -/
namespace Go.Proofs.YtkeoeooghhjibaaGreatDoor
def Zbn(n:Int):Bool:=decide (n=0∨n=1)||Zae n 2 6
def evE(ek en:Int):Int:=if Zae ek 0 8=true then(if ek=0 then Zat (Zae en 1 1000000000000) 2 else if ek=1 then Zat (Zae en 0 11) 2 else if Zae ek 2 6=true then Zat (Zae en 0 5) 2 else Zat (decide (en=0)) 3)else 15
theorem Zqo(ek en:Int):Zan Tryz.prog 38 [.agg (.gen [.int .i64 ek, .int .i64 en])] (.int .i64 (evE ek en)) none:=
 start (Zqy ek en) fun C hC=>tgo hC Zm5 Zyk (by
  by_cases h1:Zae ek 0 8=true
  ·by_cases h2:ek=0
   ·subst h2
    by_cases h3:Zae en 1 1000000000000=true<;>simp[Zmq,h1,evE,Zat,h3]
   ·by_cases h4:ek=1
    ·subst h4
     by_cases h3:Zae en 0 11=true<;>simp[Zmq,h1,evE,Zat,h3]
    ·by_cases h5:Zae ek 2 6=true
     ·by_cases h3:Zae en 0 5=true<;>simp[Zmq,h1,h2,h4,h5,evE,Zat,h3]
     ·by_cases h3:en=0<;>simp[Zmq,h1,h2,h4,h5,evE,Zat,h3]
  ·simp[Zmq,h1,evE])
theorem Zsg(ek en:Int):Zan Tryz.prog 37 [.agg (.gen [.int .i64 ek, .int .i64 en])] (.int .i64 (evE ek en)) none:=
 start (ZsQ ek en) fun C hC=>tgo hC Zm5 ZyB (by
  by_cases h1:Zae ek 0 8=true
  ·have h2:=within_iff.1 h1
   obtain⟨n,rfl⟩:∃n:Nat,ek=n:=⟨ek.toNat,by omega⟩
   have h3:n≤8:=by omega
   match n,h3 with
   |0,_=>simp[ZfQ,evE,Zae]
   |1,_=>simp[ZfQ,evE,Zae]
   |2,_=>simp[ZfQ,h1,evE,Zae]
   |3,_=>simp[ZfQ,h1,evE,Zae]
   |4,_=>simp[ZfQ,h1,evE,Zae]
   |5,_=>simp[ZfQ,h1,evE,Zae]
   |6,_=>simp[ZfQ,h1,evE,Zae]
   |7,_=>simp[ZfQ,h1,evE,Zae]
   |8,_=>simp[ZfQ,h1,evE,Zae]
  ·simp[ZfQ,h1,evE])
theorem Zo9(n:Int):Zan Tryz.prog 84 [.int .i64 n] (.bool (Zbn n)) none:=
 start (Zrg n) fun C hC=>tgo hC Zm5 Zxm (by
  by_cases h1:n=0<;>by_cases h2:n=1<;>simp[ZvS,h1,h2,Zbn])
theorem ZoY(n:Int):Zan Tryz.prog 97 [.int .i64 n] (.bool (Zae n 2 6)) none:=
 start (ZqK n) fun C hC=>tgo hC Zm5 ZxD (by simp[ZuQ])
def k38:Ctr:=⟨38,0,fun _ a=>match a with |[.agg (.gen [.int .i64 ek, .int .i64 en])]=>some (true, .int .i64 (evE ek en),none) |_=>none⟩
theorem Ztb:k38.OK Tryz.prog:=fun pa args r fr h=>by
 simp only[k38]at h
 split at h
 ·cases h
  exact Zqo _ _
 ·cases h
def k37:Ctr:=⟨37,0,fun _ a=>match a with |[.agg (.gen [.int .i64 ek, .int .i64 en])]=>some (true, .int .i64 (evE ek en),none) |_=>none⟩
theorem Zvc:k37.OK Tryz.prog:=fun pa args r fr h=>by
 simp only[k37]at h
 split at h
 ·cases h
  exact Zsg _ _
 ·cases h
def k84:Ctr:=⟨84,0,fun _ a=>match a with |[.int .i64 n]=>some (true, .bool (Zbn n),none) |_=>none⟩
theorem Zuo:k84.OK Tryz.prog:=fun pa args r fr h=>by
 simp only[k84]at h
 split at h
 ·cases h
  exact Zo9 _
 ·cases h
def k97:Ctr:=⟨97,0,fun _ a=>match a with |[.int .i64 n]=>some (true, .bool (Zae n 2 6),none) |_=>none⟩
theorem Zv3:k97.OK Tryz.prog:=fun pa args r fr h=>by
 simp only[k97]at h
 split at h
 ·cases h
  exact ZoY _
 ·cases h
def B9:List Ctr:=[k38,k37,k84,k97]++B8
theorem ZwU:Zaq Tryz.prog B9:=⟨Ztb,⟨Zvc,⟨Zuo,⟨Zv3,Zm5⟩⟩⟩⟩
end Go.Proofs.YtkeoeooghhjibaaGreatDoor
/- A copy, owned or a value, as the path says; a row of one value. No condition. -/
namespace Go.Proofs.YtkeoeooghhjibaaGreatDoor
def Ba:List Ctr:=B9
theorem Ztg:Zaq Tryz.prog Ba:=ZwU
end Go.Proofs.YtkeoeooghhjibaaGreatDoor
/- Paths of functions, printed by the explorer (Gx). No condition. -/
namespace Go.Proofs.YtkeoeooghhjibaaGreatDoor
set_option maxRecDepth 100000
set_option linter.unusedVariables false
def ZpZ(ms ks rs:List AV)(a t:Int)(xs:List Int)(s:List UInt8)(r1 r2 r3 r4 b:Int):AFrame:={ fn:=122,N:=26,env:=[(0,AV.eptr (AV.agg (Row.gen [.list (Row.big .str ms), .list (Row.big (.agg [.str, .int .i64]) ks), .list (Row.big (.agg [.str, .int .i64, .int .i64, .int .i64, .int .i64]) rs), .int .i64 a, .int .i64 t, .list (.ints .i64 xs)])) 0),(1,AV.agg (Row.gen [.str s, .int .i64 r1, .int .i64 r2, .int .i64 r3, .int .i64 r4])),(2,AV.int .i64 b)],todo:=[.code a122.code],defs:=[],rnd:=none,ret:=false,res:=[ARes.tmp 6] }
def Zyh(ms ks rs:List AV)(a t:Int)(xs:List Int)(s:List UInt8)(r1 r2 r3 r4 b:Int):List AFrame:=[(ZpZ ms ks rs a t xs s r1 r2 r3 r4 b)]
theorem Zop(ms ks rs:List AV)(a t:Int)(xs:List Int)(s:List UInt8)(r1 r2 r3 r4 b:Int):Zaz tab 122 [AV.eptr (AV.agg (Row.gen [.list (Row.big .str ms), .list (Row.big (.agg [.str, .int .i64]) ks), .list (Row.big (.agg [.str, .int .i64, .int .i64, .int .i64, .int .i64]) rs), .int .i64 a, .int .i64 t, .list (.ints .i64 xs)])) 0,AV.agg (Row.gen [.str s, .int .i64 r1, .int .i64 r2, .int .i64 r3, .int .i64 r4]),AV.int .i64 b]=some (ZpZ ms ks rs a t xs s r1 r2 r3 r4 b):=rfl
def Zp4(A:Ar)(K:KT)(F:FT)(ms ks rs:List AV)(a t:Int)(xs:List Int)(s:List UInt8)(r1 r2 r3 r4 b:Int):Prop:=qB [A.eq r2 (-1),A.eq r1 b] (F (AV.bool true) (none)) (qB [!A.eq r2 (-1),A.eq r1 b] (F (AV.bool (A.eq r2 a)) (none)) (rB [!A.eq r1 b] (F (AV.bool false) (none))))
theorem Zta{A:Ar}{K:KT}{F:FT}{M:MT}{ms ks rs:List AV}{a t:Int}{xs:List Int}{s:List UInt8}{r1 r2 r3 r4 b:Int} :ZaE A tab Ba 122 K F M (.run 6 (.alt [true,true] (.run 2 (.fn)) (.alt [true,false] (.run 2 (.fn)) (.fy (.run 2 (.fn)))))) (Zyh ms ks rs a t xs s r1 r2 r3 r4 b) []=Zp4 A K F ms ks rs a t xs s r1 r2 r3 r4 b:=by kernel_rfl
end Go.Proofs.YtkeoeooghhjibaaGreatDoor
/- Contracts as a list. No condition. -/
namespace Go.Proofs.YtkeoeooghhjibaaGreatDoor
def ZxW(a b r1 r2:Int):Bool:=decide (r1=b∧(r2= -1∨r2=a))
theorem ZnL(ms ks rs:List AV)(a t:Int)(xs:List Int)(s:List UInt8)(r1 r2 r3 r4 b:Int):Zan Tryz.prog 122 [.eptr (.agg (.gen [.list (.big .str ms), .list (.big (.agg [.str, .int .i64]) ks), .list (.big (.agg [.str, .int .i64, .int .i64, .int .i64, .int .i64]) rs), .int .i64 a, .int .i64 t, .list (.ints .i64 xs)])) 0, .agg (.gen [.str s, .int .i64 r1, .int .i64 r2, .int .i64 r3, .int .i64 r4]), .int .i64 b] (.bool (ZxW a b r1 r2)) none:=
 start (Zop ms ks rs a t xs s r1 r2 r3 r4 b) fun C hC=>tgo hC Ztg Zta (by
  by_cases h1:r1=b<;>by_cases h2:r2= -1<;>by_cases h3:r2=a<;>simp_all[Zp4,ZxW])
def k122:Ctr:=⟨122,0,fun _ a=>match a with |[.eptr (.agg (.gen [.list (.big .str _), .list (.big (.agg [.str, .int .i64]) _), .list (.big (.agg [.str, .int .i64, .int .i64, .int .i64, .int .i64]) _), .int .i64 a, .int .i64 _, .list (.ints .i64 _)])) 0, .agg (.gen [.str _, .int .i64 r1, .int .i64 r2, .int .i64 _, .int .i64 _]), .int .i64 b]=>some (true, .bool (ZxW a b r1 r2),none) |_=>none⟩
theorem ZqY:k122.OK Tryz.prog:=fun pa args r fr h=>by
 simp only[k122]at h
 split at h
 ·cases h
  exact ZnL _ _ _ _ _ _ _ _ _ _ _ _
 ·cases h
def Bb:List Ctr:=[k122]++Ba
theorem Zoz:Zaq Tryz.prog Bb:=⟨ZqY,Ztg⟩
end Go.Proofs.YtkeoeooghhjibaaGreatDoor
/- Paths of functions, printed by the explorer (Gx). No condition. -/
namespace Go.Proofs.YtkeoeooghhjibaaGreatDoor
set_option maxRecDepth 100000
set_option linter.unusedVariables false
def Zvy(ms ks rs:List AV)(a b:Int)(xs:List Int)(q:Int):AFrame:={ fn:=91,N:=66,env:=[(0,AV.eptr (AV.agg (Row.gen [.list (Row.big .str ms), .list (Row.big (.agg [.str, .int .i64]) ks), .list (Row.big (.agg [.str, .int .i64, .int .i64, .int .i64, .int .i64]) rs), .int .i64 a, .int .i64 b, .list (.ints .i64 xs)])) 0),(1,AV.int .i64 q)],todo:=[.code a91.code],defs:=[],rnd:=none,ret:=false,res:=[ARes.tmp 4] }
def ZA9(ms ks rs:List AV)(a b:Int)(xs:List Int)(q:Int):List AFrame:=[(Zvy ms ks rs a b xs q)]
theorem ZsX(ms ks rs:List AV)(a b:Int)(xs:List Int)(q:Int):Zaz tab 91 [AV.eptr (AV.agg (Row.gen [.list (Row.big .str ms), .list (Row.big (.agg [.str, .int .i64]) ks), .list (Row.big (.agg [.str, .int .i64, .int .i64, .int .i64, .int .i64]) rs), .int .i64 a, .int .i64 b, .list (.ints .i64 xs)])) 0,AV.int .i64 q]=some (Zvy ms ks rs a b xs q):=rfl
def ZdZ(ms ks rs:List AV)(a b:Int)(xs:List Int)(q n0 n1:Int):List AFrame:=[{ fn:=91,N:=66,env:=[(0,AV.eptr (AV.agg (Row.gen [.list (Row.big .str ms), .list (Row.big (.agg [.str, .int .i64]) ks), .list (Row.big (.agg [.str, .int .i64, .int .i64, .int .i64, .int .i64]) rs), .int .i64 a, .int .i64 b, .list (.ints .i64 xs)])) 0),(1,AV.int .i64 q),(11,AV.list (Row.big (.agg [.str, .int .i64, .int .i64, .int .i64, .int .i64]) rs)),(12,AV.int .i64 n0),(13,AV.int .i64 n1)],todo:=.code (ACode.gh [] Zur)::Zyq,defs:=[],rnd:=none,ret:=false,res:=[ARes.tmp 4] }]
def Zdc(ms ks rs:List AV)(a b:Int)(xs:List Int)(q n0 n1:Int):Zaa:=[]
abbrev Zbf(ms ks rs:List AV)(a b:Int)(xs:List Int)(q n0 n1:Int):List AFrame×Zaa:=(ZdZ ms ks rs a b xs q n0 n1,Zdc ms ks rs a b xs q n0 n1)
def ZtK(A:Ar)(K:KT)(F:FT)(ms ks rs:List AV)(a b:Int)(xs:List Int)(q:Int):Prop:=K (Zbf (ms) (ks) (rs) (a) (b) (xs) (q) (A.int (A.lenA rs)) (0))
theorem Zxe{A:Ar}{K:KT}{F:FT}{M:MT}{ms ks rs:List AV}{a b:Int}{xs:List Int}{q:Int} :ZaE A tab Bb 91 K F M (.run 18 (.hd)) (ZA9 ms ks rs a b xs q) []=ZtK A K F ms ks rs a b xs q:=by kernel_rfl
def Zex(A:Ar)(K:KT)(F:FT)(ms ks rs:List AV)(a b:Int)(xs:List Int)(q n0 n1:Int):Prop:=bB (A.lt n1 n0) (rB [Zah (Zah (A.le 0 n1) (Nat.blt (A.nat n1) (A.lenA rs))) true] (qB [A.eq ((A.nthA rs (A.nat n1)).cellAt 2).toI (-1),A.eq ((A.nthA rs (A.nat n1)).cellAt 1).toI q] (rB [!A.not true] (qB [A.eq ((A.nthA rs (A.nat n1)).cellAt 3).toI (-1)] (rB [Zah (Zah (A.le 0 n1) (Nat.blt (A.nat n1) (A.lenA rs))) true] (F (AV.eptr (AV.agg (Row.gen [.str ((A.nthA rs (A.nat n1)).cellAt 0).toS, .int .i64 ((A.nthA rs (A.nat n1)).cellAt 1).toI, .int .i64 ((A.nthA rs (A.nat n1)).cellAt 2).toI, .int .i64 ((A.nthA rs (A.nat n1)).cellAt 3).toI, .int .i64 ((A.nthA rs (A.nat n1)).cellAt 4).toI])) 0) (none))) (qB [A.inR .i64 (A.sub b (A.nth xs (A.nat ((A.nthA rs (A.nat n1)).cellAt 3).toI))),Zah (Zah (A.le 0 ((A.nthA rs (A.nat n1)).cellAt 3).toI) (Nat.blt (A.nat ((A.nthA rs (A.nat n1)).cellAt 3).toI) (A.len xs))) true,A.not (A.eq (A.nth xs (A.nat ((A.nthA rs (A.nat n1)).cellAt 3).toI)) (-1)),Zah (Zah (A.le 0 ((A.nthA rs (A.nat n1)).cellAt 3).toI) (Nat.blt (A.nat ((A.nthA rs (A.nat n1)).cellAt 3).toI) (A.len xs))) true,!A.eq ((A.nthA rs (A.nat n1)).cellAt 3).toI (-1)] (bB (A.lt (A.sub b (A.nth xs (A.nat ((A.nthA rs (A.nat n1)).cellAt 3).toI))) ((A.nthA rs (A.nat n1)).cellAt 4).toI) (rB [Zah (Zah (A.le 0 n1) (Nat.blt (A.nat n1) (A.lenA rs))) true] (F (AV.eptr (AV.agg (Row.gen [.str ((A.nthA rs (A.nat n1)).cellAt 0).toS, .int .i64 ((A.nthA rs (A.nat n1)).cellAt 1).toI, .int .i64 ((A.nthA rs (A.nat n1)).cellAt 2).toI, .int .i64 ((A.nthA rs (A.nat n1)).cellAt 3).toI, .int .i64 ((A.nthA rs (A.nat n1)).cellAt 4).toI])) 0) (none))) (rB [A.inR .i64 (A.add n1 1)] (K (Zbf (ms) (ks) (rs) (a) (b) (xs) (q) (n0) (A.add n1 1))))) (rB [!A.not (A.eq (A.nth xs (A.nat ((A.nthA rs (A.nat n1)).cellAt 3).toI)) (-1)),Zah (Zah (A.le 0 ((A.nthA rs (A.nat n1)).cellAt 3).toI) (Nat.blt (A.nat ((A.nthA rs (A.nat n1)).cellAt 3).toI) (A.len xs))) true,!A.eq ((A.nthA rs (A.nat n1)).cellAt 3).toI (-1)] (rB [A.inR .i64 (A.add n1 1)] (K (Zbf (ms) (ks) (rs) (a) (b) (xs) (q) (n0) (A.add n1 1)))))))) (qB [!A.eq ((A.nthA rs (A.nat n1)).cellAt 2).toI (-1),A.eq ((A.nthA rs (A.nat n1)).cellAt 1).toI q] (bB (A.not (A.eq ((A.nthA rs (A.nat n1)).cellAt 2).toI a)) (rB [A.inR .i64 (A.add n1 1)] (K (Zbf (ms) (ks) (rs) (a) (b) (xs) (q) (n0) (A.add n1 1)))) (qB [A.eq ((A.nthA rs (A.nat n1)).cellAt 3).toI (-1)] (rB [Zah (Zah (A.le 0 n1) (Nat.blt (A.nat n1) (A.lenA rs))) true] (F (AV.eptr (AV.agg (Row.gen [.str ((A.nthA rs (A.nat n1)).cellAt 0).toS, .int .i64 ((A.nthA rs (A.nat n1)).cellAt 1).toI, .int .i64 ((A.nthA rs (A.nat n1)).cellAt 2).toI, .int .i64 ((A.nthA rs (A.nat n1)).cellAt 3).toI, .int .i64 ((A.nthA rs (A.nat n1)).cellAt 4).toI])) 0) (none))) (qB [A.inR .i64 (A.sub b (A.nth xs (A.nat ((A.nthA rs (A.nat n1)).cellAt 3).toI))),Zah (Zah (A.le 0 ((A.nthA rs (A.nat n1)).cellAt 3).toI) (Nat.blt (A.nat ((A.nthA rs (A.nat n1)).cellAt 3).toI) (A.len xs))) true,A.not (A.eq (A.nth xs (A.nat ((A.nthA rs (A.nat n1)).cellAt 3).toI)) (-1)),Zah (Zah (A.le 0 ((A.nthA rs (A.nat n1)).cellAt 3).toI) (Nat.blt (A.nat ((A.nthA rs (A.nat n1)).cellAt 3).toI) (A.len xs))) true,!A.eq ((A.nthA rs (A.nat n1)).cellAt 3).toI (-1)] (bB (A.lt (A.sub b (A.nth xs (A.nat ((A.nthA rs (A.nat n1)).cellAt 3).toI))) ((A.nthA rs (A.nat n1)).cellAt 4).toI) (rB [Zah (Zah (A.le 0 n1) (Nat.blt (A.nat n1) (A.lenA rs))) true] (F (AV.eptr (AV.agg (Row.gen [.str ((A.nthA rs (A.nat n1)).cellAt 0).toS, .int .i64 ((A.nthA rs (A.nat n1)).cellAt 1).toI, .int .i64 ((A.nthA rs (A.nat n1)).cellAt 2).toI, .int .i64 ((A.nthA rs (A.nat n1)).cellAt 3).toI, .int .i64 ((A.nthA rs (A.nat n1)).cellAt 4).toI])) 0) (none))) (rB [A.inR .i64 (A.add n1 1)] (K (Zbf (ms) (ks) (rs) (a) (b) (xs) (q) (n0) (A.add n1 1))))) (rB [!A.not (A.eq (A.nth xs (A.nat ((A.nthA rs (A.nat n1)).cellAt 3).toI)) (-1)),Zah (Zah (A.le 0 ((A.nthA rs (A.nat n1)).cellAt 3).toI) (Nat.blt (A.nat ((A.nthA rs (A.nat n1)).cellAt 3).toI) (A.len xs))) true,!A.eq ((A.nthA rs (A.nat n1)).cellAt 3).toI (-1)] (rB [A.inR .i64 (A.add n1 1)] (K (Zbf (ms) (ks) (rs) (a) (b) (xs) (q) (n0) (A.add n1 1)))))))) (rB [!A.eq ((A.nthA rs (A.nat n1)).cellAt 1).toI q] (rB [A.not false] (rB [A.inR .i64 (A.add n1 1)] (K (Zbf (ms) (ks) (rs) (a) (b) (xs) (q) (n0) (A.add n1 1))))))))) (F (AV.val (Go.Value.pointer none)) (none))
theorem Zho{A:Ar}{K:KT}{F:FT}{M:MT}{ms ks rs:List AV}{a b:Int}{xs:List Int}{q n0 n1:Int} :ZaE A tab Bb 91 K F M (.run 6 (.tf (.run 25 (.alt [true,true] (.run 5 (.fy (.run 2 (.alt [true] (.run 1 (.ty (.run 13 (.fn)))) (.alt [false,true] (.run 1 (.tf (.run 13 (.fn)) (.run 8 (.hd)))) (.alt [false,false] (.run 1 (.fy (.run 8 (.hd)))) (.no))))))) (.alt [true,false] (.run 5 (.tf (.run 7 (.hd)) (.run 2 (.alt [true] (.run 1 (.ty (.run 13 (.fn)))) (.alt [false,true] (.run 1 (.tf (.run 13 (.fn)) (.run 8 (.hd)))) (.alt [false,false] (.run 1 (.fy (.run 8 (.hd)))) (.no))))))) (.fy (.run 5 (.ty (.run 7 (.hd)))))))) (.run 6 (.fn)))) (ZdZ ms ks rs a b xs q n0 n1) (Zdc ms ks rs a b xs q n0 n1)=Zex A K F ms ks rs a b xs q n0 n1:=by kernel_rfl
end Go.Proofs.YtkeoeooghhjibaaGreatDoor
