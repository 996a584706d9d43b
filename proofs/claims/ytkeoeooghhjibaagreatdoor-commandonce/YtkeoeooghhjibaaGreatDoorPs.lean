/- Calls at given values. Printed by facts.py. -/
import Derived.Test.YtkeoeooghhjibaaGreatDoorPq
import Derived.KernelRfl
namespace Go.Proofs.YtkeoeooghhjibaaGreatDoor
set_option maxRecDepth 1000000
def aw0:Fact:=⟨66,[],(.agg (.gen [(.list (.big .str [(.str [115,97,102,101]),(.str [99,114,117,105,115,101]),(.str [98,117,114,110])])),(.list (.big (.agg [.str,(.int .i64)]) [(.agg (.gen [(.str [119,97,107,101]),(.int .i64 1)])),(.agg (.gen [(.str [102,105,114,101]),(.int .i64 2)])),(.agg (.gen [(.str [115,116,111,112]),(.int .i64 1)])),(.agg (.gen [(.str [112,105,110,103]),(.int .i64 (-1))]))])),(.list (.big (.agg [.str,(.int .i64),(.int .i64),(.int .i64),(.int .i64)]) [(.agg (.gen [(.str [99,111,108,100]),(.int .i64 1),(.int .i64 0),(.int .i64 (-1)),(.int .i64 1)])),(.agg (.gen [(.str [104,101,97,116]),(.int .i64 1),(.int .i64 (-1)),(.int .i64 2),(.int .i64 50)]))])),(.list (.big (.agg [(.int .i64),(.int .i64),(.int .i64)]) [(.agg (.gen [(.int .i64 0),(.int .i64 0),(.int .i64 100)])),(.agg (.gen [(.int .i64 1),(.int .i64 20),(.int .i64 200)])),(.agg (.gen [(.int .i64 2),(.int .i64 30),(.int .i64 300)])),(.agg (.gen [(.int .i64 1),(.int .i64 40),(.int .i64 400)]))])),(.int .i64 2),(.int .i64 2)])),none⟩
theorem ZzQ:Zap Tryz.prog aw0.f aw0.args aw0.r aw0.fr:=Zae (n:=100000) (l:=[]) follows Zag trivial (by kernel_rfl)
def aw1:Fact:=⟨68,[(.bool true),(.int .i64 10)],(.int .i64 0),none⟩
theorem Zpn:Zap Tryz.prog aw1.f aw1.args aw1.r aw1.fr:=Zae (n:=100000) (l:=[]) follows Zag trivial (by kernel_rfl)
def aw2:Fact:=⟨68,[(.bool true),(.int .i64 8)],(.int .i64 0),none⟩
theorem ZlI:Zap Tryz.prog aw2.f aw2.args aw2.r aw2.fr:=Zae (n:=100000) (l:=[]) follows Zag trivial (by kernel_rfl)
def aw3:Fact:=⟨67,[(.list (.ints .i64 [0,0]))],(.int .i64 0),none⟩
theorem Zmk:Zap Tryz.prog aw3.f aw3.args aw3.r aw3.fr:=Zae (n:=100000) (l:=[]) follows Zag trivial (by kernel_rfl)
def aw4:Fact:=⟨160,[(.int .i64 0),(.eptr (.agg (.gen [(.list (.big .str [(.str [115,97,102,101]),(.str [99,114,117,105,115,101]),(.str [98,117,114,110])])),(.list (.big (.agg [.str,(.int .i64)]) [(.agg (.gen [(.str [119,97,107,101]),(.int .i64 1)])),(.agg (.gen [(.str [102,105,114,101]),(.int .i64 2)])),(.agg (.gen [(.str [115,116,111,112]),(.int .i64 1)])),(.agg (.gen [(.str [112,105,110,103]),(.int .i64 (-1))]))])),(.list (.big (.agg [.str,(.int .i64),(.int .i64),(.int .i64),(.int .i64)]) [(.agg (.gen [(.str [99,111,108,100]),(.int .i64 1),(.int .i64 0),(.int .i64 (-1)),(.int .i64 1)])),(.agg (.gen [(.str [104,101,97,116]),(.int .i64 1),(.int .i64 (-1)),(.int .i64 2),(.int .i64 50)]))]))])) 0)],(.str [115,97,102,101]),none⟩
theorem ZxT:Zap Tryz.prog aw4.f aw4.args aw4.r aw4.fr:=Zae (n:=100000) (l:=[]) follows Zag trivial (by kernel_rfl)
def aw5:Fact:=⟨182,[(.str [115,97,102,101])],(.bool true),none⟩
theorem ZBS:Zap Tryz.prog aw5.f aw5.args aw5.r aw5.fr:=Zae (n:=100000) (l:=[]) follows Zag trivial (by kernel_rfl)
def aw6:Fact:=⟨68,[(.bool true),(.int .i64 4)],(.int .i64 0),none⟩
theorem ZxR:Zap Tryz.prog aw6.f aw6.args aw6.r aw6.fr:=Zae (n:=100000) (l:=[]) follows Zag trivial (by kernel_rfl)
def aw7:Fact:=⟨68,[(.bool true),(.int .i64 5)],(.int .i64 0),none⟩
theorem ZAw:Zap Tryz.prog aw7.f aw7.args aw7.r aw7.fr:=Zae (n:=100000) (l:=[]) follows Zag trivial (by kernel_rfl)
def aw8:Fact:=⟨161,[(.int .i64 0)],(.int .i64 0),none⟩
theorem ZAR:Zap Tryz.prog aw8.f aw8.args aw8.r aw8.fr:=Zae (n:=100000) (l:=[]) follows Zag trivial (by kernel_rfl)
def aw9:Fact:=⟨67,[(.list (.ints .i64 [0,0,0]))],(.int .i64 0),none⟩
theorem ZfU:Zap Tryz.prog aw9.f aw9.args aw9.r aw9.fr:=Zae (n:=100000) (l:=[]) follows Zag trivial (by kernel_rfl)
def aw10:Fact:=⟨160,[(.int .i64 1),(.eptr (.agg (.gen [(.list (.big .str [(.str [115,97,102,101]),(.str [99,114,117,105,115,101]),(.str [98,117,114,110])])),(.list (.big (.agg [.str,(.int .i64)]) [(.agg (.gen [(.str [119,97,107,101]),(.int .i64 1)])),(.agg (.gen [(.str [102,105,114,101]),(.int .i64 2)])),(.agg (.gen [(.str [115,116,111,112]),(.int .i64 1)])),(.agg (.gen [(.str [112,105,110,103]),(.int .i64 (-1))]))])),(.list (.big (.agg [.str,(.int .i64),(.int .i64),(.int .i64),(.int .i64)]) [(.agg (.gen [(.str [99,111,108,100]),(.int .i64 1),(.int .i64 0),(.int .i64 (-1)),(.int .i64 1)])),(.agg (.gen [(.str [104,101,97,116]),(.int .i64 1),(.int .i64 (-1)),(.int .i64 2),(.int .i64 50)]))]))])) 0)],(.str [99,114,117,105,115,101]),none⟩
theorem ZuN:Zap Tryz.prog aw10.f aw10.args aw10.r aw10.fr:=Zae (n:=100000) (l:=[]) follows Zag trivial (by kernel_rfl)
def aw11:Fact:=⟨182,[(.str [99,114,117,105,115,101])],(.bool true),none⟩
theorem Zwu:Zap Tryz.prog aw11.f aw11.args aw11.r aw11.fr:=Zae (n:=100000) (l:=[]) follows Zag trivial (by kernel_rfl)
def aw12:Fact:=⟨161,[(.int .i64 1)],(.int .i64 0),none⟩
theorem ZvS:Zap Tryz.prog aw12.f aw12.args aw12.r aw12.fr:=Zae (n:=100000) (l:=[]) follows Zag trivial (by kernel_rfl)
def aw13:Fact:=⟨160,[(.int .i64 2),(.eptr (.agg (.gen [(.list (.big .str [(.str [115,97,102,101]),(.str [99,114,117,105,115,101]),(.str [98,117,114,110])])),(.list (.big (.agg [.str,(.int .i64)]) [(.agg (.gen [(.str [119,97,107,101]),(.int .i64 1)])),(.agg (.gen [(.str [102,105,114,101]),(.int .i64 2)])),(.agg (.gen [(.str [115,116,111,112]),(.int .i64 1)])),(.agg (.gen [(.str [112,105,110,103]),(.int .i64 (-1))]))])),(.list (.big (.agg [.str,(.int .i64),(.int .i64),(.int .i64),(.int .i64)]) [(.agg (.gen [(.str [99,111,108,100]),(.int .i64 1),(.int .i64 0),(.int .i64 (-1)),(.int .i64 1)])),(.agg (.gen [(.str [104,101,97,116]),(.int .i64 1),(.int .i64 (-1)),(.int .i64 2),(.int .i64 50)]))]))])) 0)],(.str [98,117,114,110]),none⟩
theorem ZtD:Zap Tryz.prog aw13.f aw13.args aw13.r aw13.fr:=Zae (n:=100000) (l:=[]) follows Zag trivial (by kernel_rfl)
def aw14:Fact:=⟨182,[(.str [98,117,114,110])],(.bool true),none⟩
theorem ZtL:Zap Tryz.prog aw14.f aw14.args aw14.r aw14.fr:=Zae (n:=100000) (l:=[]) follows Zag trivial (by kernel_rfl)
def aw15:Fact:=⟨161,[(.int .i64 2)],(.int .i64 0),none⟩
theorem Zwq:Zap Tryz.prog aw15.f aw15.args aw15.r aw15.fr:=Zae (n:=100000) (l:=[]) follows Zag trivial (by kernel_rfl)
def aw16:Fact:=⟨162,[(.int .i64 0),(.eptr (.agg (.gen [(.list (.big .str [(.str [115,97,102,101]),(.str [99,114,117,105,115,101]),(.str [98,117,114,110])])),(.list (.big (.agg [.str,(.int .i64)]) [(.agg (.gen [(.str [119,97,107,101]),(.int .i64 1)])),(.agg (.gen [(.str [102,105,114,101]),(.int .i64 2)])),(.agg (.gen [(.str [115,116,111,112]),(.int .i64 1)])),(.agg (.gen [(.str [112,105,110,103]),(.int .i64 (-1))]))])),(.list (.big (.agg [.str,(.int .i64),(.int .i64),(.int .i64),(.int .i64)]) [(.agg (.gen [(.str [99,111,108,100]),(.int .i64 1),(.int .i64 0),(.int .i64 (-1)),(.int .i64 1)])),(.agg (.gen [(.str [104,101,97,116]),(.int .i64 1),(.int .i64 (-1)),(.int .i64 2),(.int .i64 50)]))]))])) 0)],(.str [119,97,107,101]),none⟩
theorem Zwm:Zap Tryz.prog aw16.f aw16.args aw16.r aw16.fr:=Zae (n:=100000) (l:=[]) follows Zag trivial (by kernel_rfl)
def aw17:Fact:=⟨182,[(.str [119,97,107,101])],(.bool true),none⟩
theorem Ztk:Zap Tryz.prog aw17.f aw17.args aw17.r aw17.fr:=Zae (n:=100000) (l:=[]) follows Zag trivial (by kernel_rfl)
def aw18:Fact:=⟨82,[(.int .i64 1),(.int .i64 0),(.int .i64 2)],(.bool true),none⟩
theorem Zvt:Zap Tryz.prog aw18.f aw18.args aw18.r aw18.fr:=Zae (n:=100000) (l:=[]) follows Zag trivial (by kernel_rfl)
def aw19:Fact:=⟨158,[(.int .i64 1),(.int .i64 3)],(.bool true),none⟩
theorem Zn9:Zap Tryz.prog aw19.f aw19.args aw19.r aw19.fr:=Zae (n:=100000) (l:=[aw18]) follows Zag ⟨Zvt,trivial⟩ (by kernel_rfl)
def aw20:Fact:=⟨68,[(.bool true),(.int .i64 6)],(.int .i64 0),none⟩
theorem ZcW:Zap Tryz.prog aw20.f aw20.args aw20.r aw20.fr:=Zae (n:=100000) (l:=[]) follows Zag trivial (by kernel_rfl)
def aw21:Fact:=⟨163,[(.int .i64 0),(.eptr (.fn 158 []) 0),(.eptr (.agg (.gen [(.list (.big .str [(.str [115,97,102,101]),(.str [99,114,117,105,115,101]),(.str [98,117,114,110])])),(.list (.big (.agg [.str,(.int .i64)]) [(.agg (.gen [(.str [119,97,107,101]),(.int .i64 1)])),(.agg (.gen [(.str [102,105,114,101]),(.int .i64 2)])),(.agg (.gen [(.str [115,116,111,112]),(.int .i64 1)])),(.agg (.gen [(.str [112,105,110,103]),(.int .i64 (-1))]))])),(.list (.big (.agg [.str,(.int .i64),(.int .i64),(.int .i64),(.int .i64)]) [(.agg (.gen [(.str [99,111,108,100]),(.int .i64 1),(.int .i64 0),(.int .i64 (-1)),(.int .i64 1)])),(.agg (.gen [(.str [104,101,97,116]),(.int .i64 1),(.int .i64 (-1)),(.int .i64 2),(.int .i64 50)]))]))])) 0),(.eptr (.int .i64 3) 0)],(.int .i64 0),none⟩
theorem ZvQ:Zap Tryz.prog aw21.f aw21.args aw21.r aw21.fr:=Zae (n:=100000) (l:=[aw19,aw20]) follows Zag ⟨Zn9,⟨ZcW,trivial⟩⟩ (by kernel_rfl)
def aw22:Fact:=⟨162,[(.int .i64 1),(.eptr (.agg (.gen [(.list (.big .str [(.str [115,97,102,101]),(.str [99,114,117,105,115,101]),(.str [98,117,114,110])])),(.list (.big (.agg [.str,(.int .i64)]) [(.agg (.gen [(.str [119,97,107,101]),(.int .i64 1)])),(.agg (.gen [(.str [102,105,114,101]),(.int .i64 2)])),(.agg (.gen [(.str [115,116,111,112]),(.int .i64 1)])),(.agg (.gen [(.str [112,105,110,103]),(.int .i64 (-1))]))])),(.list (.big (.agg [.str,(.int .i64),(.int .i64),(.int .i64),(.int .i64)]) [(.agg (.gen [(.str [99,111,108,100]),(.int .i64 1),(.int .i64 0),(.int .i64 (-1)),(.int .i64 1)])),(.agg (.gen [(.str [104,101,97,116]),(.int .i64 1),(.int .i64 (-1)),(.int .i64 2),(.int .i64 50)]))]))])) 0)],(.str [102,105,114,101]),none⟩
theorem Zwf:Zap Tryz.prog aw22.f aw22.args aw22.r aw22.fr:=Zae (n:=100000) (l:=[]) follows Zag trivial (by kernel_rfl)
def aw23:Fact:=⟨182,[(.str [102,105,114,101])],(.bool true),none⟩
theorem Zs9:Zap Tryz.prog aw23.f aw23.args aw23.r aw23.fr:=Zae (n:=100000) (l:=[]) follows Zag trivial (by kernel_rfl)
def aw24:Fact:=⟨82,[(.int .i64 2),(.int .i64 0),(.int .i64 2)],(.bool true),none⟩
theorem Zvx:Zap Tryz.prog aw24.f aw24.args aw24.r aw24.fr:=Zae (n:=100000) (l:=[]) follows Zag trivial (by kernel_rfl)
def aw25:Fact:=⟨158,[(.int .i64 2),(.int .i64 3)],(.bool true),none⟩
theorem ZwC:Zap Tryz.prog aw25.f aw25.args aw25.r aw25.fr:=Zae (n:=100000) (l:=[aw24]) follows Zag ⟨Zvx,trivial⟩ (by kernel_rfl)
def aw26:Fact:=⟨163,[(.int .i64 1),(.eptr (.fn 158 []) 0),(.eptr (.agg (.gen [(.list (.big .str [(.str [115,97,102,101]),(.str [99,114,117,105,115,101]),(.str [98,117,114,110])])),(.list (.big (.agg [.str,(.int .i64)]) [(.agg (.gen [(.str [119,97,107,101]),(.int .i64 1)])),(.agg (.gen [(.str [102,105,114,101]),(.int .i64 2)])),(.agg (.gen [(.str [115,116,111,112]),(.int .i64 1)])),(.agg (.gen [(.str [112,105,110,103]),(.int .i64 (-1))]))])),(.list (.big (.agg [.str,(.int .i64),(.int .i64),(.int .i64),(.int .i64)]) [(.agg (.gen [(.str [99,111,108,100]),(.int .i64 1),(.int .i64 0),(.int .i64 (-1)),(.int .i64 1)])),(.agg (.gen [(.str [104,101,97,116]),(.int .i64 1),(.int .i64 (-1)),(.int .i64 2),(.int .i64 50)]))]))])) 0),(.eptr (.int .i64 3) 0)],(.int .i64 0),none⟩
theorem ZtB:Zap Tryz.prog aw26.f aw26.args aw26.r aw26.fr:=Zae (n:=100000) (l:=[aw25,aw20]) follows Zag ⟨ZwC,⟨ZcW,trivial⟩⟩ (by kernel_rfl)
def aw27:Fact:=⟨162,[(.int .i64 2),(.eptr (.agg (.gen [(.list (.big .str [(.str [115,97,102,101]),(.str [99,114,117,105,115,101]),(.str [98,117,114,110])])),(.list (.big (.agg [.str,(.int .i64)]) [(.agg (.gen [(.str [119,97,107,101]),(.int .i64 1)])),(.agg (.gen [(.str [102,105,114,101]),(.int .i64 2)])),(.agg (.gen [(.str [115,116,111,112]),(.int .i64 1)])),(.agg (.gen [(.str [112,105,110,103]),(.int .i64 (-1))]))])),(.list (.big (.agg [.str,(.int .i64),(.int .i64),(.int .i64),(.int .i64)]) [(.agg (.gen [(.str [99,111,108,100]),(.int .i64 1),(.int .i64 0),(.int .i64 (-1)),(.int .i64 1)])),(.agg (.gen [(.str [104,101,97,116]),(.int .i64 1),(.int .i64 (-1)),(.int .i64 2),(.int .i64 50)]))]))])) 0)],(.str [115,116,111,112]),none⟩
theorem ZvB:Zap Tryz.prog aw27.f aw27.args aw27.r aw27.fr:=Zae (n:=100000) (l:=[]) follows Zag trivial (by kernel_rfl)
def aw28:Fact:=⟨182,[(.str [115,116,111,112])],(.bool true),none⟩
theorem ZvR:Zap Tryz.prog aw28.f aw28.args aw28.r aw28.fr:=Zae (n:=100000) (l:=[]) follows Zag trivial (by kernel_rfl)
def aw29:Fact:=⟨163,[(.int .i64 2),(.eptr (.fn 158 []) 0),(.eptr (.agg (.gen [(.list (.big .str [(.str [115,97,102,101]),(.str [99,114,117,105,115,101]),(.str [98,117,114,110])])),(.list (.big (.agg [.str,(.int .i64)]) [(.agg (.gen [(.str [119,97,107,101]),(.int .i64 1)])),(.agg (.gen [(.str [102,105,114,101]),(.int .i64 2)])),(.agg (.gen [(.str [115,116,111,112]),(.int .i64 1)])),(.agg (.gen [(.str [112,105,110,103]),(.int .i64 (-1))]))])),(.list (.big (.agg [.str,(.int .i64),(.int .i64),(.int .i64),(.int .i64)]) [(.agg (.gen [(.str [99,111,108,100]),(.int .i64 1),(.int .i64 0),(.int .i64 (-1)),(.int .i64 1)])),(.agg (.gen [(.str [104,101,97,116]),(.int .i64 1),(.int .i64 (-1)),(.int .i64 2),(.int .i64 50)]))]))])) 0),(.eptr (.int .i64 3) 0)],(.int .i64 0),none⟩
theorem Zua:Zap Tryz.prog aw29.f aw29.args aw29.r aw29.fr:=Zae (n:=100000) (l:=[aw19,aw20]) follows Zag ⟨Zn9,⟨ZcW,trivial⟩⟩ (by kernel_rfl)
def aw30:Fact:=⟨162,[(.int .i64 3),(.eptr (.agg (.gen [(.list (.big .str [(.str [115,97,102,101]),(.str [99,114,117,105,115,101]),(.str [98,117,114,110])])),(.list (.big (.agg [.str,(.int .i64)]) [(.agg (.gen [(.str [119,97,107,101]),(.int .i64 1)])),(.agg (.gen [(.str [102,105,114,101]),(.int .i64 2)])),(.agg (.gen [(.str [115,116,111,112]),(.int .i64 1)])),(.agg (.gen [(.str [112,105,110,103]),(.int .i64 (-1))]))])),(.list (.big (.agg [.str,(.int .i64),(.int .i64),(.int .i64),(.int .i64)]) [(.agg (.gen [(.str [99,111,108,100]),(.int .i64 1),(.int .i64 0),(.int .i64 (-1)),(.int .i64 1)])),(.agg (.gen [(.str [104,101,97,116]),(.int .i64 1),(.int .i64 (-1)),(.int .i64 2),(.int .i64 50)]))]))])) 0)],(.str [112,105,110,103]),none⟩
theorem Zvu:Zap Tryz.prog aw30.f aw30.args aw30.r aw30.fr:=Zae (n:=100000) (l:=[]) follows Zag trivial (by kernel_rfl)
def aw31:Fact:=⟨182,[(.str [112,105,110,103])],(.bool true),none⟩
theorem Zwi:Zap Tryz.prog aw31.f aw31.args aw31.r aw31.fr:=Zae (n:=100000) (l:=[]) follows Zag trivial (by kernel_rfl)
def aw32:Fact:=⟨158,[(.int .i64 (-1)),(.int .i64 3)],(.bool true),none⟩
theorem Zn5:Zap Tryz.prog aw32.f aw32.args aw32.r aw32.fr:=Zae (n:=100000) (l:=[]) follows Zag trivial (by kernel_rfl)
def aw33:Fact:=⟨163,[(.int .i64 3),(.eptr (.fn 158 []) 0),(.eptr (.agg (.gen [(.list (.big .str [(.str [115,97,102,101]),(.str [99,114,117,105,115,101]),(.str [98,117,114,110])])),(.list (.big (.agg [.str,(.int .i64)]) [(.agg (.gen [(.str [119,97,107,101]),(.int .i64 1)])),(.agg (.gen [(.str [102,105,114,101]),(.int .i64 2)])),(.agg (.gen [(.str [115,116,111,112]),(.int .i64 1)])),(.agg (.gen [(.str [112,105,110,103]),(.int .i64 (-1))]))])),(.list (.big (.agg [.str,(.int .i64),(.int .i64),(.int .i64),(.int .i64)]) [(.agg (.gen [(.str [99,111,108,100]),(.int .i64 1),(.int .i64 0),(.int .i64 (-1)),(.int .i64 1)])),(.agg (.gen [(.str [104,101,97,116]),(.int .i64 1),(.int .i64 (-1)),(.int .i64 2),(.int .i64 50)]))]))])) 0),(.eptr (.int .i64 3) 0)],(.int .i64 0),none⟩
theorem ZwY:Zap Tryz.prog aw33.f aw33.args aw33.r aw33.fr:=Zae (n:=100000) (l:=[aw32,aw20]) follows Zag ⟨Zn5,⟨ZcW,trivial⟩⟩ (by kernel_rfl)
def aw34:Fact:=⟨164,[(.int .i64 0),(.eptr (.agg (.gen [(.list (.big .str [(.str [115,97,102,101]),(.str [99,114,117,105,115,101]),(.str [98,117,114,110])])),(.list (.big (.agg [.str,(.int .i64)]) [(.agg (.gen [(.str [119,97,107,101]),(.int .i64 1)])),(.agg (.gen [(.str [102,105,114,101]),(.int .i64 2)])),(.agg (.gen [(.str [115,116,111,112]),(.int .i64 1)])),(.agg (.gen [(.str [112,105,110,103]),(.int .i64 (-1))]))])),(.list (.big (.agg [.str,(.int .i64),(.int .i64),(.int .i64),(.int .i64)]) [(.agg (.gen [(.str [99,111,108,100]),(.int .i64 1),(.int .i64 0),(.int .i64 (-1)),(.int .i64 1)])),(.agg (.gen [(.str [104,101,97,116]),(.int .i64 1),(.int .i64 (-1)),(.int .i64 2),(.int .i64 50)]))]))])) 0)],(.str [99,111,108,100]),none⟩
theorem Ztf:Zap Tryz.prog aw34.f aw34.args aw34.r aw34.fr:=Zae (n:=100000) (l:=[]) follows Zag trivial (by kernel_rfl)
def aw35:Fact:=⟨182,[(.str [99,111,108,100])],(.bool true),none⟩
theorem ZuI:Zap Tryz.prog aw35.f aw35.args aw35.r aw35.fr:=Zae (n:=100000) (l:=[]) follows Zag trivial (by kernel_rfl)
def aw36:Fact:=⟨82,[(.int .i64 1),(.int .i64 0),(.int .i64 3)],(.bool true),none⟩
theorem Zgv:Zap Tryz.prog aw36.f aw36.args aw36.r aw36.fr:=Zae (n:=100000) (l:=[]) follows Zag trivial (by kernel_rfl)
def aw37:Fact:=⟨82,[(.int .i64 0),(.int .i64 0),(.int .i64 2)],(.bool true),none⟩
theorem ZpX:Zap Tryz.prog aw37.f aw37.args aw37.r aw37.fr:=Zae (n:=100000) (l:=[]) follows Zag trivial (by kernel_rfl)
def aw38:Fact:=⟨158,[(.int .i64 0),(.int .i64 3)],(.bool true),none⟩
theorem Zvk:Zap Tryz.prog aw38.f aw38.args aw38.r aw38.fr:=Zae (n:=100000) (l:=[aw37]) follows Zag ⟨ZpX,trivial⟩ (by kernel_rfl)
def aw39:Fact:=⟨158,[(.int .i64 (-1)),(.int .i64 4)],(.bool true),none⟩
theorem Zv1:Zap Tryz.prog aw39.f aw39.args aw39.r aw39.fr:=Zae (n:=100000) (l:=[]) follows Zag trivial (by kernel_rfl)
def aw40:Fact:=⟨82,[(.int .i64 1),(.int .i64 1),(.int .i64 1000000)],(.bool true),none⟩
theorem ZwV:Zap Tryz.prog aw40.f aw40.args aw40.r aw40.fr:=Zae (n:=100000) (l:=[]) follows Zag trivial (by kernel_rfl)
def aw41:Fact:=⟨68,[(.bool true),(.int .i64 2)],(.int .i64 0),none⟩
theorem ZbW:Zap Tryz.prog aw41.f aw41.args aw41.r aw41.fr:=Zae (n:=100000) (l:=[]) follows Zag trivial (by kernel_rfl)
def aw42:Fact:=⟨68,[(.bool true),(.int .i64 3)],(.int .i64 0),none⟩
theorem ZoM:Zap Tryz.prog aw42.f aw42.args aw42.r aw42.fr:=Zae (n:=100000) (l:=[]) follows Zag trivial (by kernel_rfl)
def aw43:Fact:=⟨165,[(.int .i64 0),(.eptr (.agg (.gen [(.list (.big .str [(.str [115,97,102,101]),(.str [99,114,117,105,115,101]),(.str [98,117,114,110])])),(.list (.big (.agg [.str,(.int .i64)]) [(.agg (.gen [(.str [119,97,107,101]),(.int .i64 1)])),(.agg (.gen [(.str [102,105,114,101]),(.int .i64 2)])),(.agg (.gen [(.str [115,116,111,112]),(.int .i64 1)])),(.agg (.gen [(.str [112,105,110,103]),(.int .i64 (-1))]))])),(.list (.big (.agg [.str,(.int .i64),(.int .i64),(.int .i64),(.int .i64)]) [(.agg (.gen [(.str [99,111,108,100]),(.int .i64 1),(.int .i64 0),(.int .i64 (-1)),(.int .i64 1)])),(.agg (.gen [(.str [104,101,97,116]),(.int .i64 1),(.int .i64 (-1)),(.int .i64 2),(.int .i64 50)]))]))])) 0),(.eptr (.int .i64 4) 0),(.eptr (.fn 158 []) 0),(.eptr (.int .i64 3) 0)],(.int .i64 0),none⟩
theorem Ztw:Zap Tryz.prog aw43.f aw43.args aw43.r aw43.fr:=Zae (n:=100000) (l:=[aw36,aw38,aw39,aw20,aw40,aw41,aw42,aw9]) follows Zag ⟨Zgv,⟨Zvk,⟨Zv1,⟨ZcW,⟨ZwV,⟨ZbW,⟨ZoM,⟨ZfU,trivial⟩⟩⟩⟩⟩⟩⟩⟩ (by kernel_rfl)
def aw44:Fact:=⟨164,[(.int .i64 1),(.eptr (.agg (.gen [(.list (.big .str [(.str [115,97,102,101]),(.str [99,114,117,105,115,101]),(.str [98,117,114,110])])),(.list (.big (.agg [.str,(.int .i64)]) [(.agg (.gen [(.str [119,97,107,101]),(.int .i64 1)])),(.agg (.gen [(.str [102,105,114,101]),(.int .i64 2)])),(.agg (.gen [(.str [115,116,111,112]),(.int .i64 1)])),(.agg (.gen [(.str [112,105,110,103]),(.int .i64 (-1))]))])),(.list (.big (.agg [.str,(.int .i64),(.int .i64),(.int .i64),(.int .i64)]) [(.agg (.gen [(.str [99,111,108,100]),(.int .i64 1),(.int .i64 0),(.int .i64 (-1)),(.int .i64 1)])),(.agg (.gen [(.str [104,101,97,116]),(.int .i64 1),(.int .i64 (-1)),(.int .i64 2),(.int .i64 50)]))]))])) 0)],(.str [104,101,97,116]),none⟩
theorem Zws:Zap Tryz.prog aw44.f aw44.args aw44.r aw44.fr:=Zae (n:=100000) (l:=[]) follows Zag trivial (by kernel_rfl)
def aw45:Fact:=⟨182,[(.str [104,101,97,116])],(.bool true),none⟩
theorem Zue:Zap Tryz.prog aw45.f aw45.args aw45.r aw45.fr:=Zae (n:=100000) (l:=[]) follows Zag trivial (by kernel_rfl)
def aw46:Fact:=⟨82,[(.int .i64 2),(.int .i64 0),(.int .i64 3)],(.bool true),none⟩
theorem ZpY:Zap Tryz.prog aw46.f aw46.args aw46.r aw46.fr:=Zae (n:=100000) (l:=[]) follows Zag trivial (by kernel_rfl)
def aw47:Fact:=⟨158,[(.int .i64 2),(.int .i64 4)],(.bool true),none⟩
theorem Zu5:Zap Tryz.prog aw47.f aw47.args aw47.r aw47.fr:=Zae (n:=100000) (l:=[aw46]) follows Zag ⟨ZpY,trivial⟩ (by kernel_rfl)
def aw48:Fact:=⟨82,[(.int .i64 50),(.int .i64 1),(.int .i64 1000000)],(.bool true),none⟩
theorem Zur:Zap Tryz.prog aw48.f aw48.args aw48.r aw48.fr:=Zae (n:=100000) (l:=[]) follows Zag trivial (by kernel_rfl)
def aw49:Fact:=⟨165,[(.int .i64 1),(.eptr (.agg (.gen [(.list (.big .str [(.str [115,97,102,101]),(.str [99,114,117,105,115,101]),(.str [98,117,114,110])])),(.list (.big (.agg [.str,(.int .i64)]) [(.agg (.gen [(.str [119,97,107,101]),(.int .i64 1)])),(.agg (.gen [(.str [102,105,114,101]),(.int .i64 2)])),(.agg (.gen [(.str [115,116,111,112]),(.int .i64 1)])),(.agg (.gen [(.str [112,105,110,103]),(.int .i64 (-1))]))])),(.list (.big (.agg [.str,(.int .i64),(.int .i64),(.int .i64),(.int .i64)]) [(.agg (.gen [(.str [99,111,108,100]),(.int .i64 1),(.int .i64 0),(.int .i64 (-1)),(.int .i64 1)])),(.agg (.gen [(.str [104,101,97,116]),(.int .i64 1),(.int .i64 (-1)),(.int .i64 2),(.int .i64 50)]))]))])) 0),(.eptr (.int .i64 4) 0),(.eptr (.fn 158 []) 0),(.eptr (.int .i64 3) 0)],(.int .i64 0),none⟩
theorem Zu9:Zap Tryz.prog aw49.f aw49.args aw49.r aw49.fr:=Zae (n:=100000) (l:=[aw36,aw32,aw47,aw20,aw48,aw41,aw42,aw9]) follows Zag ⟨Zgv,⟨Zn5,⟨Zu5,⟨ZcW,⟨Zur,⟨ZbW,⟨ZoM,⟨ZfU,trivial⟩⟩⟩⟩⟩⟩⟩⟩ (by kernel_rfl)
def aw50:Fact:=⟨136,[(.agg (.gen [(.list (.big .str [(.str [115,97,102,101]),(.str [99,114,117,105,115,101]),(.str [98,117,114,110])])),(.list (.big (.agg [.str,(.int .i64)]) [(.agg (.gen [(.str [119,97,107,101]),(.int .i64 1)])),(.agg (.gen [(.str [102,105,114,101]),(.int .i64 2)])),(.agg (.gen [(.str [115,116,111,112]),(.int .i64 1)])),(.agg (.gen [(.str [112,105,110,103]),(.int .i64 (-1))]))])),(.list (.big (.agg [.str,(.int .i64),(.int .i64),(.int .i64),(.int .i64)]) [(.agg (.gen [(.str [99,111,108,100]),(.int .i64 1),(.int .i64 0),(.int .i64 (-1)),(.int .i64 1)])),(.agg (.gen [(.str [104,101,97,116]),(.int .i64 1),(.int .i64 (-1)),(.int .i64 2),(.int .i64 50)]))]))]))],(.tup [(.agg (.gen [(.int .i64 0),(.int .i64 0)])),(.int .i64 0)]),none⟩
theorem Ztj:Zap Tryz.prog aw50.f aw50.args aw50.r aw50.fr:=Zae (n:=100000) (l:=[aw1,aw2,aw3,aw4,aw5,aw6,aw7,aw8,aw9,aw10,aw11,aw12,aw13,aw14,aw15,aw16,aw17,aw21,aw22,aw23,aw26,aw27,aw28,aw29,aw30,aw31,aw33,aw34,aw35,aw43,aw44,aw45,aw49]) follows Zag ⟨Zpn,⟨ZlI,⟨Zmk,⟨ZxT,⟨ZBS,⟨ZxR,⟨ZAw,⟨ZAR,⟨ZfU,⟨ZuN,⟨Zwu,⟨ZvS,⟨ZtD,⟨ZtL,⟨Zwq,⟨Zwm,⟨Ztk,⟨ZvQ,⟨Zwf,⟨Zs9,⟨ZtB,⟨ZvB,⟨ZvR,⟨Zua,⟨Zvu,⟨Zwi,⟨ZwY,⟨Ztf,⟨ZuI,⟨Ztw,⟨Zws,⟨Zue,⟨Zu9,trivial⟩⟩⟩⟩⟩⟩⟩⟩⟩⟩⟩⟩⟩⟩⟩⟩⟩⟩⟩⟩⟩⟩⟩⟩⟩⟩⟩⟩⟩⟩⟩⟩⟩ (by kernel_rfl)
def aw51:Fact:=⟨88,[(.agg (.gen [(.list (.big .str [(.str [115,97,102,101]),(.str [99,114,117,105,115,101]),(.str [98,117,114,110])])),(.list (.big (.agg [.str,(.int .i64)]) [(.agg (.gen [(.str [119,97,107,101]),(.int .i64 1)])),(.agg (.gen [(.str [102,105,114,101]),(.int .i64 2)])),(.agg (.gen [(.str [115,116,111,112]),(.int .i64 1)])),(.agg (.gen [(.str [112,105,110,103]),(.int .i64 (-1))]))])),(.list (.big (.agg [.str,(.int .i64),(.int .i64),(.int .i64),(.int .i64)]) [(.agg (.gen [(.str [99,111,108,100]),(.int .i64 1),(.int .i64 0),(.int .i64 (-1)),(.int .i64 1)])),(.agg (.gen [(.str [104,101,97,116]),(.int .i64 1),(.int .i64 (-1)),(.int .i64 2),(.int .i64 50)]))]))]))],(.int .i64 0),none⟩
theorem ZoH:Zap Tryz.prog aw51.f aw51.args aw51.r aw51.fr:=Zae (n:=100000) (l:=[aw50]) follows Zag ⟨Ztj,trivial⟩ (by kernel_rfl)
def aw52:Fact:=⟨82,[(.int .i64 0),(.int .i64 0),(.int .i64 3)],(.bool true),none⟩
theorem Zwo:Zap Tryz.prog aw52.f aw52.args aw52.r aw52.fr:=Zae (n:=100000) (l:=[]) follows Zag trivial (by kernel_rfl)
def aw53:Fact:=⟨68,[(.bool true),(.int .i64 15)],(.int .i64 0),none⟩
theorem ZgD:Zap Tryz.prog aw53.f aw53.args aw53.r aw53.fr:=Zae (n:=100000) (l:=[]) follows Zag trivial (by kernel_rfl)
def aw54:Fact:=⟨82,[(.int .i64 0),(.int .i64 0),(.int .i64 1000000000000)],(.bool true),none⟩
theorem ZtN:Zap Tryz.prog aw54.f aw54.args aw54.r aw54.fr:=Zae (n:=100000) (l:=[]) follows Zag trivial (by kernel_rfl)
def aw55:Fact:=⟨89,[(.int .i64 0)],(.bool true),none⟩
theorem Zol:Zap Tryz.prog aw55.f aw55.args aw55.r aw55.fr:=Zae (n:=100000) (l:=[aw54]) follows Zag ⟨ZtN,trivial⟩ (by kernel_rfl)
def aw56:Fact:=⟨82,[(.int .i64 100),(.int .i64 0),(.int .i64 1000000000000)],(.bool true),none⟩
theorem ZtG:Zap Tryz.prog aw56.f aw56.args aw56.r aw56.fr:=Zae (n:=100000) (l:=[]) follows Zag trivial (by kernel_rfl)
def aw57:Fact:=⟨89,[(.int .i64 100)],(.bool true),none⟩
theorem ZvE:Zap Tryz.prog aw57.f aw57.args aw57.r aw57.fr:=Zae (n:=100000) (l:=[aw56]) follows Zag ⟨ZtG,trivial⟩ (by kernel_rfl)
def aw58:Fact:=⟨68,[(.bool true),(.int .i64 9)],(.int .i64 0),none⟩
theorem ZiH:Zap Tryz.prog aw58.f aw58.args aw58.r aw58.fr:=Zae (n:=100000) (l:=[]) follows Zag trivial (by kernel_rfl)
def aw59:Fact:=⟨120,[(.agg (.gen [(.list (.big .str [(.str [115,97,102,101]),(.str [99,114,117,105,115,101]),(.str [98,117,114,110])])),(.list (.big (.agg [.str,(.int .i64)]) [(.agg (.gen [(.str [119,97,107,101]),(.int .i64 1)])),(.agg (.gen [(.str [102,105,114,101]),(.int .i64 2)])),(.agg (.gen [(.str [115,116,111,112]),(.int .i64 1)])),(.agg (.gen [(.str [112,105,110,103]),(.int .i64 (-1))]))])),(.list (.big (.agg [.str,(.int .i64),(.int .i64),(.int .i64),(.int .i64)]) [(.agg (.gen [(.str [99,111,108,100]),(.int .i64 1),(.int .i64 0),(.int .i64 (-1)),(.int .i64 1)])),(.agg (.gen [(.str [104,101,97,116]),(.int .i64 1),(.int .i64 (-1)),(.int .i64 2),(.int .i64 50)]))]))])),(.agg (.gen [(.int .i64 0),(.int .i64 0),(.int .i64 100)]))],(.int .i64 0),none⟩
theorem Ztz:Zap Tryz.prog aw59.f aw59.args aw59.r aw59.fr:=Zae (n:=100000) (l:=[aw52,aw53,aw55,aw57,aw41,aw58,aw9]) follows Zag ⟨Zwo,⟨ZgD,⟨Zol,⟨ZvE,⟨ZbW,⟨ZiH,⟨ZfU,trivial⟩⟩⟩⟩⟩⟩⟩ (by kernel_rfl)
def aw60:Fact:=⟨82,[(.int .i64 20),(.int .i64 0),(.int .i64 1000000000000)],(.bool true),none⟩
theorem Ztx:Zap Tryz.prog aw60.f aw60.args aw60.r aw60.fr:=Zae (n:=100000) (l:=[]) follows Zag trivial (by kernel_rfl)
def aw61:Fact:=⟨89,[(.int .i64 20)],(.bool true),none⟩
theorem ZuU:Zap Tryz.prog aw61.f aw61.args aw61.r aw61.fr:=Zae (n:=100000) (l:=[aw60]) follows Zag ⟨Ztx,trivial⟩ (by kernel_rfl)
def aw62:Fact:=⟨82,[(.int .i64 200),(.int .i64 0),(.int .i64 1000000000000)],(.bool true),none⟩
theorem Zwc:Zap Tryz.prog aw62.f aw62.args aw62.r aw62.fr:=Zae (n:=100000) (l:=[]) follows Zag trivial (by kernel_rfl)
def aw63:Fact:=⟨89,[(.int .i64 200)],(.bool true),none⟩
theorem ZwQ:Zap Tryz.prog aw63.f aw63.args aw63.r aw63.fr:=Zae (n:=100000) (l:=[aw62]) follows Zag ⟨Zwc,trivial⟩ (by kernel_rfl)
def aw64:Fact:=⟨120,[(.agg (.gen [(.list (.big .str [(.str [115,97,102,101]),(.str [99,114,117,105,115,101]),(.str [98,117,114,110])])),(.list (.big (.agg [.str,(.int .i64)]) [(.agg (.gen [(.str [119,97,107,101]),(.int .i64 1)])),(.agg (.gen [(.str [102,105,114,101]),(.int .i64 2)])),(.agg (.gen [(.str [115,116,111,112]),(.int .i64 1)])),(.agg (.gen [(.str [112,105,110,103]),(.int .i64 (-1))]))])),(.list (.big (.agg [.str,(.int .i64),(.int .i64),(.int .i64),(.int .i64)]) [(.agg (.gen [(.str [99,111,108,100]),(.int .i64 1),(.int .i64 0),(.int .i64 (-1)),(.int .i64 1)])),(.agg (.gen [(.str [104,101,97,116]),(.int .i64 1),(.int .i64 (-1)),(.int .i64 2),(.int .i64 50)]))]))])),(.agg (.gen [(.int .i64 1),(.int .i64 20),(.int .i64 200)]))],(.int .i64 0),none⟩
theorem ZwO:Zap Tryz.prog aw64.f aw64.args aw64.r aw64.fr:=Zae (n:=100000) (l:=[aw36,aw53,aw61,aw63,aw41,aw58,aw9]) follows Zag ⟨Zgv,⟨ZgD,⟨ZuU,⟨ZwQ,⟨ZbW,⟨ZiH,⟨ZfU,trivial⟩⟩⟩⟩⟩⟩⟩ (by kernel_rfl)
def aw65:Fact:=⟨82,[(.int .i64 30),(.int .i64 0),(.int .i64 1000000000000)],(.bool true),none⟩
theorem ZwI:Zap Tryz.prog aw65.f aw65.args aw65.r aw65.fr:=Zae (n:=100000) (l:=[]) follows Zag trivial (by kernel_rfl)
def aw66:Fact:=⟨89,[(.int .i64 30)],(.bool true),none⟩
theorem Zvz:Zap Tryz.prog aw66.f aw66.args aw66.r aw66.fr:=Zae (n:=100000) (l:=[aw65]) follows Zag ⟨ZwI,trivial⟩ (by kernel_rfl)
def aw67:Fact:=⟨82,[(.int .i64 300),(.int .i64 0),(.int .i64 1000000000000)],(.bool true),none⟩
theorem ZuC:Zap Tryz.prog aw67.f aw67.args aw67.r aw67.fr:=Zae (n:=100000) (l:=[]) follows Zag trivial (by kernel_rfl)
def aw68:Fact:=⟨89,[(.int .i64 300)],(.bool true),none⟩
theorem Zuc:Zap Tryz.prog aw68.f aw68.args aw68.r aw68.fr:=Zae (n:=100000) (l:=[aw67]) follows Zag ⟨ZuC,trivial⟩ (by kernel_rfl)
def aw69:Fact:=⟨120,[(.agg (.gen [(.list (.big .str [(.str [115,97,102,101]),(.str [99,114,117,105,115,101]),(.str [98,117,114,110])])),(.list (.big (.agg [.str,(.int .i64)]) [(.agg (.gen [(.str [119,97,107,101]),(.int .i64 1)])),(.agg (.gen [(.str [102,105,114,101]),(.int .i64 2)])),(.agg (.gen [(.str [115,116,111,112]),(.int .i64 1)])),(.agg (.gen [(.str [112,105,110,103]),(.int .i64 (-1))]))])),(.list (.big (.agg [.str,(.int .i64),(.int .i64),(.int .i64),(.int .i64)]) [(.agg (.gen [(.str [99,111,108,100]),(.int .i64 1),(.int .i64 0),(.int .i64 (-1)),(.int .i64 1)])),(.agg (.gen [(.str [104,101,97,116]),(.int .i64 1),(.int .i64 (-1)),(.int .i64 2),(.int .i64 50)]))]))])),(.agg (.gen [(.int .i64 2),(.int .i64 30),(.int .i64 300)]))],(.int .i64 0),none⟩
theorem Zwh:Zap Tryz.prog aw69.f aw69.args aw69.r aw69.fr:=Zae (n:=100000) (l:=[aw46,aw53,aw66,aw68,aw41,aw58,aw9]) follows Zag ⟨ZpY,⟨ZgD,⟨Zvz,⟨Zuc,⟨ZbW,⟨ZiH,⟨ZfU,trivial⟩⟩⟩⟩⟩⟩⟩ (by kernel_rfl)
def aw70:Fact:=⟨82,[(.int .i64 40),(.int .i64 0),(.int .i64 1000000000000)],(.bool true),none⟩
theorem Zt7:Zap Tryz.prog aw70.f aw70.args aw70.r aw70.fr:=Zae (n:=100000) (l:=[]) follows Zag trivial (by kernel_rfl)
def aw71:Fact:=⟨89,[(.int .i64 40)],(.bool true),none⟩
theorem Ztd:Zap Tryz.prog aw71.f aw71.args aw71.r aw71.fr:=Zae (n:=100000) (l:=[aw70]) follows Zag ⟨Zt7,trivial⟩ (by kernel_rfl)
def aw72:Fact:=⟨82,[(.int .i64 400),(.int .i64 0),(.int .i64 1000000000000)],(.bool true),none⟩
theorem ZwS:Zap Tryz.prog aw72.f aw72.args aw72.r aw72.fr:=Zae (n:=100000) (l:=[]) follows Zag trivial (by kernel_rfl)
def aw73:Fact:=⟨89,[(.int .i64 400)],(.bool true),none⟩
theorem ZwG:Zap Tryz.prog aw73.f aw73.args aw73.r aw73.fr:=Zae (n:=100000) (l:=[aw72]) follows Zag ⟨ZwS,trivial⟩ (by kernel_rfl)
def aw74:Fact:=⟨120,[(.agg (.gen [(.list (.big .str [(.str [115,97,102,101]),(.str [99,114,117,105,115,101]),(.str [98,117,114,110])])),(.list (.big (.agg [.str,(.int .i64)]) [(.agg (.gen [(.str [119,97,107,101]),(.int .i64 1)])),(.agg (.gen [(.str [102,105,114,101]),(.int .i64 2)])),(.agg (.gen [(.str [115,116,111,112]),(.int .i64 1)])),(.agg (.gen [(.str [112,105,110,103]),(.int .i64 (-1))]))])),(.list (.big (.agg [.str,(.int .i64),(.int .i64),(.int .i64),(.int .i64)]) [(.agg (.gen [(.str [99,111,108,100]),(.int .i64 1),(.int .i64 0),(.int .i64 (-1)),(.int .i64 1)])),(.agg (.gen [(.str [104,101,97,116]),(.int .i64 1),(.int .i64 (-1)),(.int .i64 2),(.int .i64 50)]))]))])),(.agg (.gen [(.int .i64 1),(.int .i64 40),(.int .i64 400)]))],(.int .i64 0),none⟩
theorem Zv7:Zap Tryz.prog aw74.f aw74.args aw74.r aw74.fr:=Zae (n:=100000) (l:=[aw36,aw53,aw71,aw73,aw41,aw58,aw9]) follows Zag ⟨Zgv,⟨ZgD,⟨Ztd,⟨ZwG,⟨ZbW,⟨ZiH,⟨ZfU,trivial⟩⟩⟩⟩⟩⟩⟩ (by kernel_rfl)
def aw75:Fact:=⟨71,[(.agg (.gen [(.list (.big .str [(.str [115,97,102,101]),(.str [99,114,117,105,115,101]),(.str [98,117,114,110])])),(.list (.big (.agg [.str,(.int .i64)]) [(.agg (.gen [(.str [119,97,107,101]),(.int .i64 1)])),(.agg (.gen [(.str [102,105,114,101]),(.int .i64 2)])),(.agg (.gen [(.str [115,116,111,112]),(.int .i64 1)])),(.agg (.gen [(.str [112,105,110,103]),(.int .i64 (-1))]))])),(.list (.big (.agg [.str,(.int .i64),(.int .i64),(.int .i64),(.int .i64)]) [(.agg (.gen [(.str [99,111,108,100]),(.int .i64 1),(.int .i64 0),(.int .i64 (-1)),(.int .i64 1)])),(.agg (.gen [(.str [104,101,97,116]),(.int .i64 1),(.int .i64 (-1)),(.int .i64 2),(.int .i64 50)]))]))])),(.list (.big (.agg [(.int .i64),(.int .i64),(.int .i64)]) [(.agg (.gen [(.int .i64 0),(.int .i64 0),(.int .i64 100)])),(.agg (.gen [(.int .i64 1),(.int .i64 20),(.int .i64 200)])),(.agg (.gen [(.int .i64 2),(.int .i64 30),(.int .i64 300)])),(.agg (.gen [(.int .i64 1),(.int .i64 40),(.int .i64 400)]))]))],(.tup [(.int .i64 0),(.int .i64 0)]),none⟩
theorem ZnY:Zap Tryz.prog aw75.f aw75.args aw75.r aw75.fr:=Zae (n:=100000) (l:=[aw51,aw1,aw2,aw9,aw59,aw64,aw69,aw74]) follows Zag ⟨ZoH,⟨Zpn,⟨ZlI,⟨ZfU,⟨Ztz,⟨ZwO,⟨Zwh,⟨Zv7,trivial⟩⟩⟩⟩⟩⟩⟩⟩ (by kernel_rfl)
def aw76:Fact:=⟨179,[(.int .u64 1),(.int .u64 4)],(.tup [(.int .u64 0),(.int .u64 4)]),none⟩
theorem Zus:Zap Tryz.prog aw76.f aw76.args aw76.r aw76.fr:=Zae (n:=100000) (l:=[]) follows Zag trivial (by kernel_rfl)
def aw77:Fact:=⟨152,[(.int .u64 1),(.int .u64 4)],(.tup [(.int .u64 0),(.int .u64 4)]),none⟩
theorem ZvX:Zap Tryz.prog aw77.f aw77.args aw77.r aw77.fr:=Zae (n:=100000) (l:=[aw76]) follows Zag ⟨Zus,trivial⟩ (by kernel_rfl)
def aw78:Fact:=⟨121,[(.list (.ints .i64 [(-1)])),(.int .i64 4)],(.row 0 0),(some ⟨3,1,(.ints .i64 [(-1),(-1),(-1),(-1)])⟩)⟩
theorem Zkr:Zap Tryz.prog aw78.f aw78.args aw78.r aw78.fr:=Zae (n:=100000) (l:=[aw77]) follows Zag ⟨ZvX,trivial⟩ (by kernel_rfl)
def aw79:Fact:=⟨122,[(.eptr (.agg (.gen [(.list (.big .str [(.str [115,97,102,101]),(.str [99,114,117,105,115,101]),(.str [98,117,114,110])])),(.list (.big (.agg [.str,(.int .i64)]) [(.agg (.gen [(.str [119,97,107,101]),(.int .i64 1)])),(.agg (.gen [(.str [102,105,114,101]),(.int .i64 2)])),(.agg (.gen [(.str [115,116,111,112]),(.int .i64 1)])),(.agg (.gen [(.str [112,105,110,103]),(.int .i64 (-1))]))])),(.list (.big (.agg [.str,(.int .i64),(.int .i64),(.int .i64),(.int .i64)]) [(.agg (.gen [(.str [99,111,108,100]),(.int .i64 1),(.int .i64 0),(.int .i64 (-1)),(.int .i64 1)])),(.agg (.gen [(.str [104,101,97,116]),(.int .i64 1),(.int .i64 (-1)),(.int .i64 2),(.int .i64 50)]))])),(.int .i64 0),(.int .i64 0),(.list (.ints .i64 [(-1),(-1),(-1),(-1)]))])) 0),(.agg (.gen [(.str [104,101,97,116]),(.int .i64 1),(.int .i64 (-1)),(.int .i64 2),(.int .i64 50)])),(.int .i64 0)],(.bool false),none⟩
theorem ZwP:Zap Tryz.prog aw79.f aw79.args aw79.r aw79.fr:=Zae (n:=100000) (l:=[]) follows Zag trivial (by kernel_rfl)
def aw80:Fact:=⟨82,[(.int .i64 0),(.int .i64 0),(.int .i64 100)],(.bool true),none⟩
theorem Ztt:Zap Tryz.prog aw80.f aw80.args aw80.r aw80.fr:=Zae (n:=100000) (l:=[]) follows Zag trivial (by kernel_rfl)
def aw81:Fact:=⟨91,[(.eptr (.agg (.gen [(.list (.big .str [(.str [115,97,102,101]),(.str [99,114,117,105,115,101]),(.str [98,117,114,110])])),(.list (.big (.agg [.str,(.int .i64)]) [(.agg (.gen [(.str [119,97,107,101]),(.int .i64 1)])),(.agg (.gen [(.str [102,105,114,101]),(.int .i64 2)])),(.agg (.gen [(.str [115,116,111,112]),(.int .i64 1)])),(.agg (.gen [(.str [112,105,110,103]),(.int .i64 (-1))]))])),(.list (.big (.agg [.str,(.int .i64),(.int .i64),(.int .i64),(.int .i64)]) [(.agg (.gen [(.str [99,111,108,100]),(.int .i64 1),(.int .i64 0),(.int .i64 (-1)),(.int .i64 1)])),(.agg (.gen [(.str [104,101,97,116]),(.int .i64 1),(.int .i64 (-1)),(.int .i64 2),(.int .i64 50)]))])),(.int .i64 0),(.int .i64 0),(.list (.ints .i64 [(-1),(-1),(-1),(-1)]))])) 0),(.int .i64 0)],(.val (.pointer none)),none⟩
theorem Zuw:Zap Tryz.prog aw81.f aw81.args aw81.r aw81.fr:=Zae (n:=100000) (l:=[]) follows Zag trivial (by kernel_rfl)
def aw82:Fact:=⟨123,[(.eptr (.agg (.gen [(.list (.big .str [(.str [115,97,102,101]),(.str [99,114,117,105,115,101]),(.str [98,117,114,110])])),(.list (.big (.agg [.str,(.int .i64)]) [(.agg (.gen [(.str [119,97,107,101]),(.int .i64 1)])),(.agg (.gen [(.str [102,105,114,101]),(.int .i64 2)])),(.agg (.gen [(.str [115,116,111,112]),(.int .i64 1)])),(.agg (.gen [(.str [112,105,110,103]),(.int .i64 (-1))]))])),(.list (.big (.agg [.str,(.int .i64),(.int .i64),(.int .i64),(.int .i64)]) [(.agg (.gen [(.str [99,111,108,100]),(.int .i64 1),(.int .i64 0),(.int .i64 (-1)),(.int .i64 1)])),(.agg (.gen [(.str [104,101,97,116]),(.int .i64 1),(.int .i64 (-1)),(.int .i64 2),(.int .i64 50)]))])),(.int .i64 0),(.int .i64 0),(.list (.ints .i64 [(-1),(-1),(-1),(-1)]))])) 0),(.agg (.gen [(.int .i64 0),(.int .i64 0),(.int .i64 100)]))],(.bool true),none⟩
theorem ZkS:Zap Tryz.prog aw82.f aw82.args aw82.r aw82.fr:=Zae (n:=100000) (l:=[aw80,aw81]) follows Zag ⟨Ztt,⟨Zuw,trivial⟩⟩ (by kernel_rfl)
def aw83:Fact:=⟨122,[(.eptr (.agg (.gen [(.list (.big .str [(.str [115,97,102,101]),(.str [99,114,117,105,115,101]),(.str [98,117,114,110])])),(.list (.big (.agg [.str,(.int .i64)]) [(.agg (.gen [(.str [119,97,107,101]),(.int .i64 1)])),(.agg (.gen [(.str [102,105,114,101]),(.int .i64 2)])),(.agg (.gen [(.str [115,116,111,112]),(.int .i64 1)])),(.agg (.gen [(.str [112,105,110,103]),(.int .i64 (-1))]))])),(.list (.big (.agg [.str,(.int .i64),(.int .i64),(.int .i64),(.int .i64)]) [(.agg (.gen [(.str [99,111,108,100]),(.int .i64 1),(.int .i64 0),(.int .i64 (-1)),(.int .i64 1)])),(.agg (.gen [(.str [104,101,97,116]),(.int .i64 1),(.int .i64 (-1)),(.int .i64 2),(.int .i64 50)]))])),(.int .i64 1),(.int .i64 20),(.list (.ints .i64 [0,(-1),(-1),(-1)]))])) 0),(.agg (.gen [(.str [104,101,97,116]),(.int .i64 1),(.int .i64 (-1)),(.int .i64 2),(.int .i64 50)])),(.int .i64 1)],(.bool true),none⟩
theorem Zu3:Zap Tryz.prog aw83.f aw83.args aw83.r aw83.fr:=Zae (n:=100000) (l:=[]) follows Zag trivial (by kernel_rfl)
def aw84:Fact:=⟨82,[(.int .i64 20),(.int .i64 20),(.int .i64 200)],(.bool true),none⟩
theorem ZvN:Zap Tryz.prog aw84.f aw84.args aw84.r aw84.fr:=Zae (n:=100000) (l:=[]) follows Zag trivial (by kernel_rfl)
def aw85:Fact:=⟨91,[(.eptr (.agg (.gen [(.list (.big .str [(.str [115,97,102,101]),(.str [99,114,117,105,115,101]),(.str [98,117,114,110])])),(.list (.big (.agg [.str,(.int .i64)]) [(.agg (.gen [(.str [119,97,107,101]),(.int .i64 1)])),(.agg (.gen [(.str [102,105,114,101]),(.int .i64 2)])),(.agg (.gen [(.str [115,116,111,112]),(.int .i64 1)])),(.agg (.gen [(.str [112,105,110,103]),(.int .i64 (-1))]))])),(.list (.big (.agg [.str,(.int .i64),(.int .i64),(.int .i64),(.int .i64)]) [(.agg (.gen [(.str [99,111,108,100]),(.int .i64 1),(.int .i64 0),(.int .i64 (-1)),(.int .i64 1)])),(.agg (.gen [(.str [104,101,97,116]),(.int .i64 1),(.int .i64 (-1)),(.int .i64 2),(.int .i64 50)]))])),(.int .i64 1),(.int .i64 20),(.list (.ints .i64 [0,(-1),(-1),(-1)]))])) 0),(.int .i64 1)],(.val (.pointer none)),none⟩
theorem ZtQ:Zap Tryz.prog aw85.f aw85.args aw85.r aw85.fr:=Zae (n:=100000) (l:=[]) follows Zag trivial (by kernel_rfl)
def aw86:Fact:=⟨123,[(.eptr (.agg (.gen [(.list (.big .str [(.str [115,97,102,101]),(.str [99,114,117,105,115,101]),(.str [98,117,114,110])])),(.list (.big (.agg [.str,(.int .i64)]) [(.agg (.gen [(.str [119,97,107,101]),(.int .i64 1)])),(.agg (.gen [(.str [102,105,114,101]),(.int .i64 2)])),(.agg (.gen [(.str [115,116,111,112]),(.int .i64 1)])),(.agg (.gen [(.str [112,105,110,103]),(.int .i64 (-1))]))])),(.list (.big (.agg [.str,(.int .i64),(.int .i64),(.int .i64),(.int .i64)]) [(.agg (.gen [(.str [99,111,108,100]),(.int .i64 1),(.int .i64 0),(.int .i64 (-1)),(.int .i64 1)])),(.agg (.gen [(.str [104,101,97,116]),(.int .i64 1),(.int .i64 (-1)),(.int .i64 2),(.int .i64 50)]))])),(.int .i64 1),(.int .i64 20),(.list (.ints .i64 [0,(-1),(-1),(-1)]))])) 0),(.agg (.gen [(.int .i64 1),(.int .i64 20),(.int .i64 200)]))],(.bool true),none⟩
theorem Zt8:Zap Tryz.prog aw86.f aw86.args aw86.r aw86.fr:=Zae (n:=100000) (l:=[aw84,aw85]) follows Zag ⟨ZvN,⟨ZtQ,trivial⟩⟩ (by kernel_rfl)
def aw87:Fact:=⟨122,[(.eptr (.agg (.gen [(.list (.big .str [(.str [115,97,102,101]),(.str [99,114,117,105,115,101]),(.str [98,117,114,110])])),(.list (.big (.agg [.str,(.int .i64)]) [(.agg (.gen [(.str [119,97,107,101]),(.int .i64 1)])),(.agg (.gen [(.str [102,105,114,101]),(.int .i64 2)])),(.agg (.gen [(.str [115,116,111,112]),(.int .i64 1)])),(.agg (.gen [(.str [112,105,110,103]),(.int .i64 (-1))]))])),(.list (.big (.agg [.str,(.int .i64),(.int .i64),(.int .i64),(.int .i64)]) [(.agg (.gen [(.str [99,111,108,100]),(.int .i64 1),(.int .i64 0),(.int .i64 (-1)),(.int .i64 1)])),(.agg (.gen [(.str [104,101,97,116]),(.int .i64 1),(.int .i64 (-1)),(.int .i64 2),(.int .i64 50)]))])),(.int .i64 2),(.int .i64 30),(.list (.ints .i64 [0,20,(-1),(-1)]))])) 0),(.agg (.gen [(.str [104,101,97,116]),(.int .i64 1),(.int .i64 (-1)),(.int .i64 2),(.int .i64 50)])),(.int .i64 2)],(.bool false),none⟩
theorem Zuj:Zap Tryz.prog aw87.f aw87.args aw87.r aw87.fr:=Zae (n:=100000) (l:=[]) follows Zag trivial (by kernel_rfl)
def aw88:Fact:=⟨82,[(.int .i64 30),(.int .i64 30),(.int .i64 300)],(.bool true),none⟩
theorem Zw7:Zap Tryz.prog aw88.f aw88.args aw88.r aw88.fr:=Zae (n:=100000) (l:=[]) follows Zag trivial (by kernel_rfl)
def aw89:Fact:=⟨91,[(.eptr (.agg (.gen [(.list (.big .str [(.str [115,97,102,101]),(.str [99,114,117,105,115,101]),(.str [98,117,114,110])])),(.list (.big (.agg [.str,(.int .i64)]) [(.agg (.gen [(.str [119,97,107,101]),(.int .i64 1)])),(.agg (.gen [(.str [102,105,114,101]),(.int .i64 2)])),(.agg (.gen [(.str [115,116,111,112]),(.int .i64 1)])),(.agg (.gen [(.str [112,105,110,103]),(.int .i64 (-1))]))])),(.list (.big (.agg [.str,(.int .i64),(.int .i64),(.int .i64),(.int .i64)]) [(.agg (.gen [(.str [99,111,108,100]),(.int .i64 1),(.int .i64 0),(.int .i64 (-1)),(.int .i64 1)])),(.agg (.gen [(.str [104,101,97,116]),(.int .i64 1),(.int .i64 (-1)),(.int .i64 2),(.int .i64 50)]))])),(.int .i64 2),(.int .i64 30),(.list (.ints .i64 [0,20,(-1),(-1)]))])) 0),(.int .i64 2)],(.val (.pointer none)),none⟩
theorem Zwv:Zap Tryz.prog aw89.f aw89.args aw89.r aw89.fr:=Zae (n:=100000) (l:=[]) follows Zag trivial (by kernel_rfl)
def aw90:Fact:=⟨123,[(.eptr (.agg (.gen [(.list (.big .str [(.str [115,97,102,101]),(.str [99,114,117,105,115,101]),(.str [98,117,114,110])])),(.list (.big (.agg [.str,(.int .i64)]) [(.agg (.gen [(.str [119,97,107,101]),(.int .i64 1)])),(.agg (.gen [(.str [102,105,114,101]),(.int .i64 2)])),(.agg (.gen [(.str [115,116,111,112]),(.int .i64 1)])),(.agg (.gen [(.str [112,105,110,103]),(.int .i64 (-1))]))])),(.list (.big (.agg [.str,(.int .i64),(.int .i64),(.int .i64),(.int .i64)]) [(.agg (.gen [(.str [99,111,108,100]),(.int .i64 1),(.int .i64 0),(.int .i64 (-1)),(.int .i64 1)])),(.agg (.gen [(.str [104,101,97,116]),(.int .i64 1),(.int .i64 (-1)),(.int .i64 2),(.int .i64 50)]))])),(.int .i64 2),(.int .i64 30),(.list (.ints .i64 [0,20,(-1),(-1)]))])) 0),(.agg (.gen [(.int .i64 2),(.int .i64 30),(.int .i64 300)]))],(.bool true),none⟩
theorem Zu8:Zap Tryz.prog aw90.f aw90.args aw90.r aw90.fr:=Zae (n:=100000) (l:=[aw88,aw89]) follows Zag ⟨Zw7,⟨Zwv,trivial⟩⟩ (by kernel_rfl)
def aw91:Fact:=⟨122,[(.eptr (.agg (.gen [(.list (.big .str [(.str [115,97,102,101]),(.str [99,114,117,105,115,101]),(.str [98,117,114,110])])),(.list (.big (.agg [.str,(.int .i64)]) [(.agg (.gen [(.str [119,97,107,101]),(.int .i64 1)])),(.agg (.gen [(.str [102,105,114,101]),(.int .i64 2)])),(.agg (.gen [(.str [115,116,111,112]),(.int .i64 1)])),(.agg (.gen [(.str [112,105,110,103]),(.int .i64 (-1))]))])),(.list (.big (.agg [.str,(.int .i64),(.int .i64),(.int .i64),(.int .i64)]) [(.agg (.gen [(.str [99,111,108,100]),(.int .i64 1),(.int .i64 0),(.int .i64 (-1)),(.int .i64 1)])),(.agg (.gen [(.str [104,101,97,116]),(.int .i64 1),(.int .i64 (-1)),(.int .i64 2),(.int .i64 50)]))])),(.int .i64 1),(.int .i64 40),(.list (.ints .i64 [0,20,30,(-1)]))])) 0),(.agg (.gen [(.str [104,101,97,116]),(.int .i64 1),(.int .i64 (-1)),(.int .i64 2),(.int .i64 50)])),(.int .i64 1)],(.bool true),none⟩
theorem Zwx:Zap Tryz.prog aw91.f aw91.args aw91.r aw91.fr:=Zae (n:=100000) (l:=[]) follows Zag trivial (by kernel_rfl)
def aw92:Fact:=⟨82,[(.int .i64 80),(.int .i64 40),(.int .i64 400)],(.bool true),none⟩
theorem ZvU:Zap Tryz.prog aw92.f aw92.args aw92.r aw92.fr:=Zae (n:=100000) (l:=[]) follows Zag trivial (by kernel_rfl)
def aw93:Fact:=⟨91,[(.eptr (.agg (.gen [(.list (.big .str [(.str [115,97,102,101]),(.str [99,114,117,105,115,101]),(.str [98,117,114,110])])),(.list (.big (.agg [.str,(.int .i64)]) [(.agg (.gen [(.str [119,97,107,101]),(.int .i64 1)])),(.agg (.gen [(.str [102,105,114,101]),(.int .i64 2)])),(.agg (.gen [(.str [115,116,111,112]),(.int .i64 1)])),(.agg (.gen [(.str [112,105,110,103]),(.int .i64 (-1))]))])),(.list (.big (.agg [.str,(.int .i64),(.int .i64),(.int .i64),(.int .i64)]) [(.agg (.gen [(.str [99,111,108,100]),(.int .i64 1),(.int .i64 0),(.int .i64 (-1)),(.int .i64 1)])),(.agg (.gen [(.str [104,101,97,116]),(.int .i64 1),(.int .i64 (-1)),(.int .i64 2),(.int .i64 50)]))])),(.int .i64 1),(.int .i64 80),(.list (.ints .i64 [0,20,30,(-1)]))])) 0),(.int .i64 1)],(.val (.pointer none)),none⟩
theorem Zu4:Zap Tryz.prog aw93.f aw93.args aw93.r aw93.fr:=Zae (n:=100000) (l:=[]) follows Zag trivial (by kernel_rfl)
def aw94:Fact:=⟨123,[(.eptr (.agg (.gen [(.list (.big .str [(.str [115,97,102,101]),(.str [99,114,117,105,115,101]),(.str [98,117,114,110])])),(.list (.big (.agg [.str,(.int .i64)]) [(.agg (.gen [(.str [119,97,107,101]),(.int .i64 1)])),(.agg (.gen [(.str [102,105,114,101]),(.int .i64 2)])),(.agg (.gen [(.str [115,116,111,112]),(.int .i64 1)])),(.agg (.gen [(.str [112,105,110,103]),(.int .i64 (-1))]))])),(.list (.big (.agg [.str,(.int .i64),(.int .i64),(.int .i64),(.int .i64)]) [(.agg (.gen [(.str [99,111,108,100]),(.int .i64 1),(.int .i64 0),(.int .i64 (-1)),(.int .i64 1)])),(.agg (.gen [(.str [104,101,97,116]),(.int .i64 1),(.int .i64 (-1)),(.int .i64 2),(.int .i64 50)]))])),(.int .i64 1),(.int .i64 80),(.list (.ints .i64 [0,20,30,(-1)]))])) 0),(.agg (.gen [(.int .i64 1),(.int .i64 40),(.int .i64 400)]))],(.bool true),none⟩
theorem ZwR:Zap Tryz.prog aw94.f aw94.args aw94.r aw94.fr:=Zae (n:=100000) (l:=[aw92,aw93]) follows Zag ⟨ZvU,⟨Zu4,trivial⟩⟩ (by kernel_rfl)
def aw95:Fact:=⟨24,[(.agg (.gen [(.list (.big .str [(.str [115,97,102,101]),(.str [99,114,117,105,115,101]),(.str [98,117,114,110])])),(.list (.big (.agg [.str,(.int .i64)]) [(.agg (.gen [(.str [119,97,107,101]),(.int .i64 1)])),(.agg (.gen [(.str [102,105,114,101]),(.int .i64 2)])),(.agg (.gen [(.str [115,116,111,112]),(.int .i64 1)])),(.agg (.gen [(.str [112,105,110,103]),(.int .i64 (-1))]))])),(.list (.big (.agg [.str,(.int .i64),(.int .i64),(.int .i64),(.int .i64)]) [(.agg (.gen [(.str [99,111,108,100]),(.int .i64 1),(.int .i64 0),(.int .i64 (-1)),(.int .i64 1)])),(.agg (.gen [(.str [104,101,97,116]),(.int .i64 1),(.int .i64 (-1)),(.int .i64 2),(.int .i64 50)]))]))])),(.list (.big (.agg [(.int .i64),(.int .i64),(.int .i64)]) [(.agg (.gen [(.int .i64 0),(.int .i64 0),(.int .i64 100)])),(.agg (.gen [(.int .i64 1),(.int .i64 20),(.int .i64 200)])),(.agg (.gen [(.int .i64 2),(.int .i64 30),(.int .i64 300)])),(.agg (.gen [(.int .i64 1),(.int .i64 40),(.int .i64 400)]))]))],(.tup [(.row 0 0),(.int .i64 0)]),(some ⟨3,1,(.ints .i64 [0,20,30,80])⟩)⟩
theorem Zvd:Zap Tryz.prog aw95.f aw95.args aw95.r aw95.fr:=Zae (n:=100000) (l:=[aw75,aw78,aw79,aw82,aw83,aw86,aw87,aw90,aw91,aw94]) follows Zag ⟨ZnY,⟨Zkr,⟨ZwP,⟨ZkS,⟨Zu3,⟨Zt8,⟨Zuj,⟨Zu8,⟨Zwx,⟨ZwR,trivial⟩⟩⟩⟩⟩⟩⟩⟩⟩⟩ (by kernel_rfl)
def aw96:Fact:=⟨87,[(.int .i64 (-1)),(.eptr (.agg (.gen [(.int .i64 0),(.int .i64 0),(.list (.ints .i64 [(-1),(-1),(-1),(-1)]))])) 0)],(.bool false),none⟩
theorem ZwT:Zap Tryz.prog aw96.f aw96.args aw96.r aw96.fr:=Zae (n:=100000) (l:=[]) follows Zag trivial (by kernel_rfl)
def aw97:Fact:=⟨137,[(.list (.ints .i64 [(-1),(-1),(-1),(-1)])),(.fn 87 [(.eptr (.agg (.gen [(.int .i64 0),(.int .i64 0),(.list (.ints .i64 [(-1),(-1),(-1),(-1)]))])) 0)])],(.int .i64 (-1)),none⟩
theorem Zv8:Zap Tryz.prog aw97.f aw97.args aw97.r aw97.fr:=Zae (n:=100000) (l:=[aw96]) follows Zag ⟨ZwT,trivial⟩ (by kernel_rfl)
def aw98:Fact:=⟨90,[(.list (.ints .i64 [(-1),(-1),(-1),(-1)])),(.fn 87 [(.eptr (.agg (.gen [(.int .i64 0),(.int .i64 0),(.list (.ints .i64 [(-1),(-1),(-1),(-1)]))])) 0)])],(.bool false),none⟩
theorem Zup:Zap Tryz.prog aw98.f aw98.args aw98.r aw98.fr:=Zae (n:=100000) (l:=[aw97]) follows Zag ⟨Zv8,trivial⟩ (by kernel_rfl)
def aw99:Fact:=⟨67,[(.list (.ints .i64 [0,0,0,0,0,0]))],(.int .i64 0),none⟩
theorem ZvT:Zap Tryz.prog aw99.f aw99.args aw99.r aw99.fr:=Zae (n:=100000) (l:=[]) follows Zag trivial (by kernel_rfl)
def aw100:Fact:=⟨42,[(.agg (.gen [(.list (.big .str [(.str [115,97,102,101]),(.str [99,114,117,105,115,101]),(.str [98,117,114,110])])),(.list (.big (.agg [.str,(.int .i64)]) [(.agg (.gen [(.str [119,97,107,101]),(.int .i64 1)])),(.agg (.gen [(.str [102,105,114,101]),(.int .i64 2)])),(.agg (.gen [(.str [115,116,111,112]),(.int .i64 1)])),(.agg (.gen [(.str [112,105,110,103]),(.int .i64 (-1))]))])),(.list (.big (.agg [.str,(.int .i64),(.int .i64),(.int .i64),(.int .i64)]) [(.agg (.gen [(.str [99,111,108,100]),(.int .i64 1),(.int .i64 0),(.int .i64 (-1)),(.int .i64 1)])),(.agg (.gen [(.str [104,101,97,116]),(.int .i64 1),(.int .i64 (-1)),(.int .i64 2),(.int .i64 50)]))]))])),(.agg (.gen [(.int .i64 0),(.int .i64 0),(.list (.ints .i64 [(-1),(-1),(-1),(-1)]))])),(.int .i64 1)],(.tup [(.str [99,111,108,100]),(.int .i64 0)]),none⟩
theorem Zqq:Zap Tryz.prog aw100.f aw100.args aw100.r aw100.fr:=Zae (n:=100000) (l:=[aw51,aw37,aw20,aw55,aw41,aw1,aw98,aw36,aw53,aw99]) follows Zag ⟨ZoH,⟨ZpX,⟨ZcW,⟨Zol,⟨ZbW,⟨Zpn,⟨Zup,⟨Zgv,⟨ZgD,⟨ZvT,trivial⟩⟩⟩⟩⟩⟩⟩⟩⟩⟩ (by kernel_rfl)
def aw101:Fact:=⟨82,[(.int .i64 2),(.int .i64 1),(.int .i64 6)],(.bool true),none⟩
theorem Zry:Zap Tryz.prog aw101.f aw101.args aw101.r aw101.fr:=Zae (n:=100000) (l:=[]) follows Zag trivial (by kernel_rfl)
def aw102:Fact:=⟨36,[(.agg (.gen [(.list (.big .str [(.str [115,97,102,101]),(.str [99,114,117,105,115,101]),(.str [98,117,114,110])])),(.list (.big (.agg [.str,(.int .i64)]) [(.agg (.gen [(.str [119,97,107,101]),(.int .i64 1)])),(.agg (.gen [(.str [102,105,114,101]),(.int .i64 2)])),(.agg (.gen [(.str [115,116,111,112]),(.int .i64 1)])),(.agg (.gen [(.str [112,105,110,103]),(.int .i64 (-1))]))])),(.list (.big (.agg [.str,(.int .i64),(.int .i64),(.int .i64),(.int .i64)]) [(.agg (.gen [(.str [99,111,108,100]),(.int .i64 1),(.int .i64 0),(.int .i64 (-1)),(.int .i64 1)])),(.agg (.gen [(.str [104,101,97,116]),(.int .i64 1),(.int .i64 (-1)),(.int .i64 2),(.int .i64 50)]))])),(.list (.big (.agg [(.int .i64),(.int .i64),(.int .i64)]) [(.agg (.gen [(.int .i64 0),(.int .i64 0),(.int .i64 100)])),(.agg (.gen [(.int .i64 1),(.int .i64 20),(.int .i64 200)])),(.agg (.gen [(.int .i64 2),(.int .i64 30),(.int .i64 300)])),(.agg (.gen [(.int .i64 1),(.int .i64 40),(.int .i64 400)]))])),(.int .i64 2),(.int .i64 2)]))],(.int .i64 0),none⟩
theorem ZlF:Zap Tryz.prog aw102.f aw102.args aw102.r aw102.fr:=Zae (n:=100000) (l:=[aw75,aw101,aw41,aw3]) follows Zag ⟨ZnY,⟨Zry,⟨ZbW,⟨Zmk,trivial⟩⟩⟩⟩ (by kernel_rfl)
def aw103:Fact:=⟨83,[],(.agg (.gen [(.str [112,97,115,115]),(.int .i64 1),(.int .i64 1000000000000),(.fn 127 []),(.str [115,101,110,100]),(.int .i64 0),(.int .i64 11),(.fn 128 []),(.str [97,114,114,105,118,101]),(.int .i64 0),(.int .i64 5),(.fn 129 []),(.str [104,101,97,114]),(.int .i64 0),(.int .i64 5),(.fn 130 []),(.str [108,111,115,101]),(.int .i64 0),(.int .i64 5),(.fn 131 []),(.str [100,114,111,112]),(.int .i64 0),(.int .i64 5),(.fn 132 []),(.str [114,101,112,101,97,116]),(.int .i64 0),(.int .i64 5),(.fn 133 []),(.str [114,101,115,116,97,114,116]),(.int .i64 0),(.int .i64 0),(.fn 134 []),(.str [114,101,98,111,111,116]),(.int .i64 0),(.int .i64 0),(.fn 135 [])])),none⟩
theorem Zcx:Zap Tryz.prog aw103.f aw103.args aw103.r aw103.fr:=Zae (n:=100000) (l:=[]) follows Zag trivial (by kernel_rfl)
def aw104:Fact:=⟨82,[(.int .i64 1),(.int .i64 0),(.int .i64 8)],(.bool true),none⟩
theorem Zqm:Zap Tryz.prog aw104.f aw104.args aw104.r aw104.fr:=Zae (n:=100000) (l:=[]) follows Zag trivial (by kernel_rfl)
def aw105:Fact:=⟨82,[(.int .i64 0),(.int .i64 0),(.int .i64 11)],(.bool true),none⟩
theorem Zqh:Zap Tryz.prog aw105.f aw105.args aw105.r aw105.fr:=Zae (n:=100000) (l:=[]) follows Zag trivial (by kernel_rfl)
def aw106:Fact:=⟨37,[(.agg (.gen [(.int .i64 1),(.int .i64 0)]))],(.int .i64 0),none⟩
theorem Zl7:Zap Tryz.prog aw106.f aw106.args aw106.r aw106.fr:=Zae (n:=100000) (l:=[aw103,aw104,aw105,aw41]) follows Zag ⟨Zcx,⟨Zqm,⟨Zqh,⟨ZbW,trivial⟩⟩⟩⟩ (by kernel_rfl)
def aw107:Fact:=⟨68,[(.bool true),(.int .i64 21)],(.int .i64 0),none⟩
theorem ZlM:Zap Tryz.prog aw107.f aw107.args aw107.r aw107.fr:=Zae (n:=100000) (l:=[]) follows Zag trivial (by kernel_rfl)
def aw108:Fact:=⟨82,[(.int .i64 0),(.int .i64 0),(.int .i64 1)],(.bool true),none⟩
theorem Zml:Zap Tryz.prog aw108.f aw108.args aw108.r aw108.fr:=Zae (n:=100000) (l:=[]) follows Zag trivial (by kernel_rfl)
def aw109:Fact:=⟨68,[(.bool true),(.int .i64 26)],(.int .i64 0),none⟩
theorem Zl0:Zap Tryz.prog aw109.f aw109.args aw109.r aw109.fr:=Zae (n:=100000) (l:=[]) follows Zag trivial (by kernel_rfl)
def aw110:Fact:=⟨68,[(.bool true),(.int .i64 16)],(.int .i64 0),none⟩
theorem Zmm:Zap Tryz.prog aw110.f aw110.args aw110.r aw110.fr:=Zae (n:=100000) (l:=[]) follows Zag trivial (by kernel_rfl)
def aw111:Fact:=⟨67,[(.list (.ints .i64 [0,0,0,0]))],(.int .i64 0),none⟩
theorem Zmt:Zap Tryz.prog aw111.f aw111.args aw111.r aw111.fr:=Zae (n:=100000) (l:=[]) follows Zag trivial (by kernel_rfl)
def aw112:Fact:=⟨82,[(.int .i64 2),(.int .i64 0),(.int .i64 8)],(.bool true),none⟩
theorem ZqB:Zap Tryz.prog aw112.f aw112.args aw112.r aw112.fr:=Zae (n:=100000) (l:=[]) follows Zag trivial (by kernel_rfl)
def aw113:Fact:=⟨82,[(.int .i64 0),(.int .i64 0),(.int .i64 5)],(.bool true),none⟩
theorem ZiN:Zap Tryz.prog aw113.f aw113.args aw113.r aw113.fr:=Zae (n:=100000) (l:=[]) follows Zag trivial (by kernel_rfl)
def aw114:Fact:=⟨37,[(.agg (.gen [(.int .i64 2),(.int .i64 0)]))],(.int .i64 0),none⟩
theorem ZlO:Zap Tryz.prog aw114.f aw114.args aw114.r aw114.fr:=Zae (n:=100000) (l:=[aw103,aw112,aw113,aw41]) follows Zag ⟨Zcx,⟨ZqB,⟨ZiN,⟨ZbW,trivial⟩⟩⟩⟩ (by kernel_rfl)
def aw115:Fact:=⟨82,[(.int .i64 5),(.int .i64 0),(.int .i64 8)],(.bool true),none⟩
theorem Zqd:Zap Tryz.prog aw115.f aw115.args aw115.r aw115.fr:=Zae (n:=100000) (l:=[]) follows Zag trivial (by kernel_rfl)
def aw116:Fact:=⟨37,[(.agg (.gen [(.int .i64 5),(.int .i64 0)]))],(.int .i64 0),none⟩
theorem Zl6:Zap Tryz.prog aw116.f aw116.args aw116.r aw116.fr:=Zae (n:=100000) (l:=[aw103,aw115,aw113,aw41]) follows Zag ⟨Zcx,⟨Zqd,⟨ZiN,⟨ZbW,trivial⟩⟩⟩⟩ (by kernel_rfl)
def aw117:Fact:=⟨82,[(.int .i64 3),(.int .i64 0),(.int .i64 8)],(.bool true),none⟩
theorem ZrS:Zap Tryz.prog aw117.f aw117.args aw117.r aw117.fr:=Zae (n:=100000) (l:=[]) follows Zag trivial (by kernel_rfl)
def aw118:Fact:=⟨37,[(.agg (.gen [(.int .i64 3),(.int .i64 0)]))],(.int .i64 0),none⟩
theorem ZmA:Zap Tryz.prog aw118.f aw118.args aw118.r aw118.fr:=Zae (n:=100000) (l:=[aw103,aw117,aw113,aw41]) follows Zag ⟨Zcx,⟨ZrS,⟨ZiN,⟨ZbW,trivial⟩⟩⟩⟩ (by kernel_rfl)
def aw119:Fact:=⟨15,[(.agg (.gen [(.list (.big .str [(.str [115,97,102,101]),(.str [99,114,117,105,115,101]),(.str [98,117,114,110])])),(.list (.big (.agg [.str,(.int .i64)]) [(.agg (.gen [(.str [119,97,107,101]),(.int .i64 1)])),(.agg (.gen [(.str [102,105,114,101]),(.int .i64 2)])),(.agg (.gen [(.str [115,116,111,112]),(.int .i64 1)])),(.agg (.gen [(.str [112,105,110,103]),(.int .i64 (-1))]))])),(.list (.big (.agg [.str,(.int .i64),(.int .i64),(.int .i64),(.int .i64)]) [(.agg (.gen [(.str [99,111,108,100]),(.int .i64 1),(.int .i64 0),(.int .i64 (-1)),(.int .i64 1)])),(.agg (.gen [(.str [104,101,97,116]),(.int .i64 1),(.int .i64 (-1)),(.int .i64 2),(.int .i64 50)]))])),(.list (.big (.agg [(.int .i64),(.int .i64),(.int .i64)]) [(.agg (.gen [(.int .i64 0),(.int .i64 0),(.int .i64 100)])),(.agg (.gen [(.int .i64 1),(.int .i64 20),(.int .i64 200)])),(.agg (.gen [(.int .i64 2),(.int .i64 30),(.int .i64 300)])),(.agg (.gen [(.int .i64 1),(.int .i64 40),(.int .i64 400)]))])),(.int .i64 2),(.int .i64 2)])),(.list (.big (.agg [(.int .i64),(.int .i64)]) [(.agg (.gen [(.int .i64 1),(.int .i64 0)])),(.agg (.gen [(.int .i64 2),(.int .i64 0)])),(.agg (.gen [(.int .i64 5),(.int .i64 0)])),(.agg (.gen [(.int .i64 1),(.int .i64 0)])),(.agg (.gen [(.int .i64 2),(.int .i64 0)])),(.agg (.gen [(.int .i64 3),(.int .i64 0)]))]))],(.tup [(.agg (.gen [(.int .i64 0),(.int .i64 1),(.list (.big (.agg [(.int .i64),(.int .i64)]) [(.agg (.gen [(.int .i64 0),(.int .i64 0)]))])),(.bool false),(.int .i64 1),(.bool false),(.list (.ints .i64 [])),(.list (.big (.agg [(.int .i64), .bool]) []))])),(.int .i64 0),(.int .i64 0)]),none⟩
theorem Zrm:Zap Tryz.prog aw119.f aw119.args aw119.r aw119.fr:=ZlQ (n:=100000) (d:=3) (l:=[aw102,aw2,aw3,aw78,aw106,aw103,aw20,aw107,aw108,aw109,aw110,aw111,aw114,aw82,aw116,aw118]) follows Zag ⟨ZlF,⟨ZlI,⟨Zmk,⟨Zkr,⟨Zl7,⟨Zcx,⟨ZcW,⟨ZlM,⟨Zml,⟨Zl0,⟨Zmm,⟨Zmt,⟨ZlO,⟨ZkS,⟨Zl6,⟨ZmA,trivial⟩⟩⟩⟩⟩⟩⟩⟩⟩⟩⟩⟩⟩⟩⟩⟩ (by kernel_rfl)
def aw120:Fact:=⟨29,[(.list (.ints .i64 [0,20,30,80])),(.list (.ints .i64 [0,20,30,80]))],(.bool true),none⟩
theorem ZqF:Zap Tryz.prog aw120.f aw120.args aw120.r aw120.fr:=Zae (n:=100000) (l:=[]) follows Zag trivial (by kernel_rfl)
def aw121:Fact:=⟨22,[(.list (.big (.agg [(.int .i64),(.int .i64)]) [(.agg (.gen [(.int .i64 0),(.int .i64 0)]))])),(.list (.big (.agg [(.int .i64),(.int .i64)]) [(.agg (.gen [(.int .i64 0),(.int .i64 0)]))]))],(.bool true),none⟩
theorem Zrq:Zap Tryz.prog aw121.f aw121.args aw121.r aw121.fr:=Zae (n:=100000) (l:=[]) follows Zag trivial (by kernel_rfl)
def aw122:Fact:=⟨82,[(.int .i64 0),(.int .i64 0),(.int .i64 8)],(.bool true),none⟩
theorem Zq9:Zap Tryz.prog aw122.f aw122.args aw122.r aw122.fr:=Zae (n:=100000) (l:=[]) follows Zag trivial (by kernel_rfl)
def aw123:Fact:=⟨198,[(.int .i64 20)],(.str [50,48]),none⟩
theorem ZqM:Zap Tryz.prog aw123.f aw123.args aw123.r aw123.fr:=Zae (n:=100000) (l:=[]) follows Zag trivial (by kernel_rfl)
def aw124:Fact:=⟨183,[(.int .i64 20),(.int .i64 10)],(.str [50,48]),none⟩
theorem Zp9:Zap Tryz.prog aw124.f aw124.args aw124.r aw124.fr:=Zae (n:=100000) (l:=[aw123]) follows Zag ⟨ZqM,trivial⟩ (by kernel_rfl)
def aw125:Fact:=⟨166,[(.int .i64 20)],(.str [50,48]),none⟩
theorem ZqU:Zap Tryz.prog aw125.f aw125.args aw125.r aw125.fr:=Zae (n:=100000) (l:=[aw124]) follows Zag ⟨Zp9,trivial⟩ (by kernel_rfl)
def aw126:Fact:=⟨138,[(.int .i64 20)],(.str [50,48]),none⟩
theorem ZrP:Zap Tryz.prog aw126.f aw126.args aw126.r aw126.fr:=Zae (n:=100000) (l:=[aw125]) follows Zag ⟨ZqU,trivial⟩ (by kernel_rfl)
def aw127:Fact:=⟨113,[(.list (.big .str [(.str [50,48])])),(.str [32])],(.str [50,48]),none⟩
theorem Zrl:Zap Tryz.prog aw127.f aw127.args aw127.r aw127.fr:=Zae (n:=100000) (l:=[]) follows Zag trivial (by kernel_rfl)
def aw128:Fact:=⟨105,[(.list (.ints .i64 [20]))],(.str [50,48]),none⟩
theorem Zre:Zap Tryz.prog aw128.f aw128.args aw128.r aw128.fr:=Zae (n:=100000) (l:=[aw126,aw127]) follows Zag ⟨ZrP,⟨Zrl,trivial⟩⟩ (by kernel_rfl)
def aw129:Fact:=⟨53,[(.agg (.gen [(.int .i64 0),(.int .i64 20)]))],(.str [112,97,115,115,32,50,48]),none⟩
theorem ZrV:Zap Tryz.prog aw129.f aw129.args aw129.r aw129.fr:=Zae (n:=100000) (l:=[aw103,aw122,aw128]) follows Zag ⟨Zcx,⟨Zq9,⟨Zre,trivial⟩⟩⟩ (by kernel_rfl)
def aw130:Fact:=⟨13,[],(.bool true),none⟩
theorem ZrQ:Zap Tryz.prog aw130.f aw130.args aw130.r aw130.fr:=ZlQ (n:=100000) (d:=3) (l:=[aw0,aw95,aw100,aw119,aw102,aw2,aw3,aw78,aw106,aw103,aw20,aw107,aw108,aw109,aw110,aw111,aw114,aw82,aw116,aw118,aw120,aw121,aw129]) follows Zag ⟨ZzQ,⟨Zvd,⟨Zqq,⟨Zrm,⟨ZlF,⟨ZlI,⟨Zmk,⟨Zkr,⟨Zl7,⟨Zcx,⟨ZcW,⟨ZlM,⟨Zml,⟨Zl0,⟨Zmm,⟨Zmt,⟨ZlO,⟨ZkS,⟨Zl6,⟨ZmA,⟨ZqF,⟨Zrq,⟨ZrV,trivial⟩⟩⟩⟩⟩⟩⟩⟩⟩⟩⟩⟩⟩⟩⟩⟩⟩⟩⟩⟩⟩⟩⟩ (by kernel_rfl)
theorem awake_ok:Zap Tryz.prog aw130.f aw130.args aw130.r aw130.fr:=ZrQ
end Go.Proofs.YtkeoeooghhjibaaGreatDoor
/- Contracts as a list. No condition. -/
namespace Go.Proofs.YtkeoeooghhjibaaGreatDoor
theorem Zqo(ms ks rs:List AV)(h:Zay ms ks rs=true):Zap Tryz.prog 65 [.agg (.gen [.list (.big .str ms), .list (.big (.agg [.str, .int .i64]) ks), .list (.big (.agg [.str, .int .i64, .int .i64, .int .i64, .int .i64]) rs)])] (.int .i64 (Zaz ms ks rs)) none:=
 start (ZvV ms ks rs) fun C hC=>tgo hC Zzc ZDK (by simp[Zy4,h])
def pI:AV→Int
 | .tup [.int _ i,_]=>i
 |_=>0
def pE:AV→Int
 | .tup [_, .int _ e]=>e
 |_=>0
def isP(v:AV):Prop:=∃i e,v=Zlf i e
theorem isP.eq{v:AV}(h:isP v):v=Zlf (pI v) (pE v):=by
 obtain⟨i,e,rfl⟩:=h
 rfl
theorem ZjB{f:Nat→Int} :∀m k,isP (Zfw f m k)
 |0,_=>⟨_,_,rfl⟩
 |m+1,k=>by
  unfold Zfw
  split
  ·exact ZjB m (k+1)
  ·exact⟨_,_,rfl⟩
theorem Zql(e n:Int)(l:List AV):isP (ZeC e n l):=by
 unfold ZeC
 split
 ·exact ZjB _ _
 ·exact⟨_,_,rfl⟩
def Zkz(e n:Int)(l:List AV):Int:=pI (ZeC e n l)
def ZbL(e n:Int)(l:List AV):Int:=pE (ZeC e n l)
theorem ZnR(e n:Int)(l:List AV):ZeC e n l=.tup [.int .i64 (Zkz e n l), .int .i64 (ZbL e n l)]:=(Zql e n l).eq
theorem ZlY{e n:Int}{l:List AV}(h:e≠0):Zkz e n l=0∧ZbL e n l=e:=by
 have:Zf4 e l=e:=by simp[Zf4,Zaf,h]
 simp[Zkz,ZbL,ZeC,this,h,Zlf,pI,pE]
theorem ZpE(ms ks rs l:List AV)(hs:Zay ms ks rs=true∧l.length≤1000000):Zap Tryz.prog 71 [.agg (.gen [.list (.big .str ms), .list (.big (.agg [.str, .int .i64]) ks), .list (.big (.agg [.str, .int .i64, .int .i64, .int .i64, .int .i64]) rs)]), .list (.big (.agg [.int .i64, .int .i64, .int .i64]) l)] (.tup [.int .i64 (Zkz (Zaz ms ks rs) ks.length l), .int .i64 (ZbL (Zaz ms ks rs) ks.length l)]) none:=by
 rw[←ZnR]
 exact ZrK ms ks rs l hs.1 hs.2
theorem ZmU(ms ks rs l:List AV)(hs:ks.length≤1000000∧l.length≤1000000):Zap Tryz.prog 76 [.agg (.gen [.list (.big .str ms), .list (.big (.agg [.str, .int .i64]) ks), .list (.big (.agg [.str, .int .i64, .int .i64, .int .i64, .int .i64]) rs)]), .list (.big (.agg [.int .i64, .int .i64, .int .i64]) l)] (.tup [.int .i64 (Zkz 0 ks.length l), .int .i64 (ZbL 0 ks.length l)]) none:=by
 rw[←ZnR]
 exact Zn1 ms ks rs l hs.1 hs.2
def k65:Ctr:=⟨65,0,fun _ a=>match a with |[.agg (.gen [.list (.big .str ms), .list (.big (.agg [.str, .int .i64]) ks), .list (.big (.agg [.str, .int .i64, .int .i64, .int .i64, .int .i64]) rs)])]=>some (decide (Zay ms ks rs=true), .int .i64 (Zaz ms ks rs),none) |_=>none⟩
theorem ZBK:k65.OK Tryz.prog:=fun pa args r fr h=>by
 simp only[k65]at h
 split at h
 ·simp only[Option.some.injEq,Prod.mk.injEq,decide_eq_true_eq]at h
  obtain⟨h0,rfl,rfl⟩:=h
  exact Zqo _ _ _ h0
 ·cases h
def k71:Ctr:=⟨71,0,fun _ a=>match a with |[.agg (.gen [.list (.big .str ms), .list (.big (.agg [.str, .int .i64]) ks), .list (.big (.agg [.str, .int .i64, .int .i64, .int .i64, .int .i64]) rs)]), .list (.big (.agg [.int .i64, .int .i64, .int .i64]) l)]=>some (decide (Zay ms ks rs=true∧l.length≤1000000), .tup [.int .i64 (Zkz (Zaz ms ks rs) ks.length l), .int .i64 (ZbL (Zaz ms ks rs) ks.length l)],none) |_=>none⟩
theorem ZAs:k71.OK Tryz.prog:=fun pa args r fr h=>by
 simp only[k71]at h
 split at h
 ·simp only[Option.some.injEq,Prod.mk.injEq,decide_eq_true_eq]at h
  obtain⟨h0,rfl,rfl⟩:=h
  exact ZpE _ _ _ _ h0
 ·cases h
def k76:Ctr:=⟨76,0,fun _ a=>match a with |[.agg (.gen [.list (.big .str _), .list (.big (.agg [.str, .int .i64]) ks), .list (.big (.agg [.str, .int .i64, .int .i64, .int .i64, .int .i64]) _)]), .list (.big (.agg [.int .i64, .int .i64, .int .i64]) l)]=>some (decide (ks.length≤1000000∧l.length≤1000000), .tup [.int .i64 (Zkz 0 ks.length l), .int .i64 (ZbL 0 ks.length l)],none) |_=>none⟩
theorem Zxq:k76.OK Tryz.prog:=fun pa args r fr h=>by
 simp only[k76]at h
 split at h
 ·simp only[Option.some.injEq,Prod.mk.injEq,decide_eq_true_eq]at h
  obtain⟨h0,rfl,rfl⟩:=h
  exact ZmU _ _ _ _ h0
 ·cases h
def k13:Ctr:=⟨13,0,fun _ a=>match a with |[]=>some (true, .bool true,none) |_=>none⟩
theorem ZBB:k13.OK Tryz.prog:=fun pa args r fr h=>by
 simp only[k13]at h
 split at h
 ·cases h
  exact awake_ok
 ·cases h
def B8:List Ctr:=[k65,k71,k76,k13]++B7
theorem Zfm:ZaE Tryz.prog B8:=⟨ZBK,⟨ZAs,⟨Zxq,⟨ZBB,Zzc⟩⟩⟩⟩
end Go.Proofs.YtkeoeooghhjibaaGreatDoor
/- Paths of functions, printed by the explorer (Gx). No condition. -/
namespace Go.Proofs.YtkeoeooghhjibaaGreatDoor
set_option maxRecDepth 100000
set_option linter.unusedVariables false
def ZxH(ms ks rs l:List AV):AFrame:={ fn:=28,N:=20,env:=[(0,AV.agg (Row.gen [.list (Row.big .str ms), .list (Row.big (.agg [.str, .int .i64]) ks), .list (Row.big (.agg [.str, .int .i64, .int .i64, .int .i64, .int .i64]) rs)])),(1,AV.list (Row.big (.agg [.int .i64, .int .i64, .int .i64]) l))],todo:=[.code a28.code],defs:=[],rnd:=none,ret:=false,res:=[ARes.tmp 4] }
def ZIx(ms ks rs l:List AV):List AFrame:=[(ZxH ms ks rs l)]
theorem ZtA(ms ks rs l:List AV):Zat tab 28 [AV.agg (Row.gen [.list (Row.big .str ms), .list (Row.big (.agg [.str, .int .i64]) ks), .list (Row.big (.agg [.str, .int .i64, .int .i64, .int .i64, .int .i64]) rs)]),AV.list (Row.big (.agg [.int .i64, .int .i64, .int .i64]) l)]=some (ZxH ms ks rs l):=rfl
def ZyW(A:Ar)(K:KT)(F:FT)(ms ks rs l:List AV):Prop:=rB [decide (Zay ms ks rs=true)] (bB (A.not (A.eq (Zaz ms ks rs) 0)) (F (AV.int .i64 (Zaz ms ks rs)) (none)) (rB [decide (List.length ks≤1000000∧List.length l≤1000000)] (F (AV.int .i64 (ZbL 0 (↑(List.length ks)) l)) (none))))
theorem ZD7{A:Ar}{K:KT}{F:FT}{M:MT}{ms ks rs l:List AV} :ZaN A tab B8 28 K F M (.run 17 (.tf (.run 6 (.fn)) (.run 19 (.fn)))) (ZIx ms ks rs l) []=ZyW A K F ms ks rs l:=by kernel_rfl
def ZBl(ms ks rs l:List AV)(wn fl:Int):AFrame:={ fn:=19,N:=22,env:=[(0,AV.agg (Row.gen [.list (Row.big .str ms), .list (Row.big (.agg [.str, .int .i64]) ks), .list (Row.big (.agg [.str, .int .i64, .int .i64, .int .i64, .int .i64]) rs), .list (Row.big (.agg [.int .i64, .int .i64, .int .i64]) l), .int .i64 wn, .int .i64 fl]))],todo:=[.code a19.code],defs:=[],rnd:=none,ret:=false,res:=[ARes.tmp 2] }
def ZHo(ms ks rs l:List AV)(wn fl:Int):List AFrame:=[(ZBl ms ks rs l wn fl)]
theorem Zt4(ms ks rs l:List AV)(wn fl:Int):Zat tab 19 [AV.agg (Row.gen [.list (Row.big .str ms), .list (Row.big (.agg [.str, .int .i64]) ks), .list (Row.big (.agg [.str, .int .i64, .int .i64, .int .i64, .int .i64]) rs), .list (Row.big (.agg [.int .i64, .int .i64, .int .i64]) l), .int .i64 wn, .int .i64 fl])]=some (ZBl ms ks rs l wn fl):=rfl
def Zuq(A:Ar)(K:KT)(F:FT)(ms ks rs l:List AV)(wn fl:Int):Prop:=rB [decide (Zay ms ks rs=true)] (bB (A.not (A.eq (Zaz ms ks rs) 0)) (rB [A.not (A.eq (Zaz ms ks rs) 0)] (F (AV.int .i64 (Zaz ms ks rs)) (none))) (rB [decide (List.length ks≤1000000∧List.length l≤1000000)] (bB (A.not (A.eq (ZbL 0 (↑(List.length ks)) l) 0)) (F (AV.int .i64 (ZbL 0 (↑(List.length ks)) l)) (none)) (bB (A.not (Zab wn 1 6)) (F (AV.int .i64 2) (none)) (bB (A.not (Zab fl 1 6)) (F (AV.int .i64 2) (none)) (F (AV.int .i64 0) (none)))))))
theorem ZDH{A:Ar}{K:KT}{F:FT}{M:MT}{ms ks rs l:List AV}{wn fl:Int} :ZaN A tab B8 19 K F M (.run 30 (.tf (.run 14 (.ty (.run 6 (.fn)))) (.run 27 (.tf (.run 6 (.fn)) (.run 9 (.tf (.ty (.ty (.ty (.ty (.run 2 (.ty (.run 5 (.fn)))))))) (.fy (.fy (.fy (.fy (.run 2 (.tf (.run 5 (.fn)) (.run 6 (.fn)))))))))))))) (ZHo ms ks rs l wn fl) []=Zuq A K F ms ks rs l wn fl:=by kernel_rfl
def Zyc(ms ks rs l:List AV)(wn fl:Int):AFrame:={ fn:=36,N:=25,env:=[(0,AV.agg (Row.gen [.list (Row.big .str ms), .list (Row.big (.agg [.str, .int .i64]) ks), .list (Row.big (.agg [.str, .int .i64, .int .i64, .int .i64, .int .i64]) rs), .list (Row.big (.agg [.int .i64, .int .i64, .int .i64]) l), .int .i64 wn, .int .i64 fl]))],todo:=[.code a36.code],defs:=[],rnd:=none,ret:=false,res:=[ARes.tmp 2] }
def ZG7(ms ks rs l:List AV)(wn fl:Int):List AFrame:=[(Zyc ms ks rs l wn fl)]
theorem Ztg(ms ks rs l:List AV)(wn fl:Int):Zat tab 36 [AV.agg (Row.gen [.list (Row.big .str ms), .list (Row.big (.agg [.str, .int .i64]) ks), .list (Row.big (.agg [.str, .int .i64, .int .i64, .int .i64, .int .i64]) rs), .list (Row.big (.agg [.int .i64, .int .i64, .int .i64]) l), .int .i64 wn, .int .i64 fl])]=some (Zyc ms ks rs l wn fl):=rfl
def ZAA(A:Ar)(K:KT)(F:FT)(ms ks rs l:List AV)(wn fl:Int):Prop:=rB [decide (Zay ms ks rs=true∧List.length l≤1000000)] (bB (Zab wn 1 6) (rB [decide (List.length [ZbL (Zaz ms ks rs) (↑(List.length ks)) l,Zaa (Zab fl 1 6) 2]≤1000000),List.all [AV.int .i64 (ZbL (Zaz ms ks rs) (↑(List.length ks)) l),AV.int .i64 (Zaa (Zab fl 1 6) 2)] fun x=>AV.bx x&&Nat.beq (Zad A x) 1] (F (AV.int .i64 (Zaf [ZbL (Zaz ms ks rs) (↑(List.length ks)) l,Zaa (Zab fl 1 6) 2])) (none))) (rB [decide (List.length [ZbL (Zaz ms ks rs) (↑(List.length ks)) l,2]≤1000000),List.all [AV.int .i64 (ZbL (Zaz ms ks rs) (↑(List.length ks)) l),AV.int .i64 2] fun x=>AV.bx x&&Nat.beq (Zad A x) 1] (F (AV.int .i64 (Zaf [ZbL (Zaz ms ks rs) (↑(List.length ks)) l,2])) (none))))
theorem ZD6{A:Ar}{K:KT}{F:FT}{M:MT}{ms ks rs l:List AV}{wn fl:Int} :ZaN A tab B8 36 K F M (.run 26 (.tf (.ty (.ty (.ty (.run 7 (.fn))))) (.fy (.fy (.fy (.run 7 (.fn))))))) (ZG7 ms ks rs l wn fl) []=ZAA A K F ms ks rs l wn fl:=by kernel_rfl
def ZBv(ms ks rs l:List AV)(wn fl:Int):AFrame:={ fn:=33,N:=7,env:=[(0,AV.agg (Row.gen [.list (Row.big .str ms), .list (Row.big (.agg [.str, .int .i64]) ks), .list (Row.big (.agg [.str, .int .i64, .int .i64, .int .i64, .int .i64]) rs), .list (Row.big (.agg [.int .i64, .int .i64, .int .i64]) l), .int .i64 wn, .int .i64 fl]))],todo:=[.code a33.code],defs:=[],rnd:=none,ret:=false,res:=[ARes.cell 2 true 8,ARes.tmp 3] }
def ZIR(ms ks rs l:List AV)(wn fl:Int):List AFrame:=[(ZBv ms ks rs l wn fl)]
theorem Zub(ms ks rs l:List AV)(wn fl:Int):Zat tab 33 [AV.agg (Row.gen [.list (Row.big .str ms), .list (Row.big (.agg [.str, .int .i64]) ks), .list (Row.big (.agg [.str, .int .i64, .int .i64, .int .i64, .int .i64]) rs), .list (Row.big (.agg [.int .i64, .int .i64, .int .i64]) l), .int .i64 wn, .int .i64 fl])]=some (ZBv ms ks rs l wn fl):=rfl
def Zyb(A:Ar)(K:KT)(F:FT)(ms ks rs l:List AV)(wn fl:Int):Prop:=rB [decide (Zay ms ks rs=true∧List.length l≤1000000)] (bB (Zab wn 1 6) (rB [decide (List.length [ZbL (Zaz ms ks rs) (↑(List.length ks)) l,Zaa (Zab fl 1 6) 2]≤1000000),List.all [AV.int .i64 (ZbL (Zaz ms ks rs) (↑(List.length ks)) l),AV.int .i64 (Zaa (Zab fl 1 6) 2)] fun x=>AV.bx x&&Nat.beq (Zad A x) 1] (F (AV.tup [AV.agg (Row.gen [.int .i64 0, .int .i64 0,AV.nils, .bool false, .int .i64 0, .bool false,AV.nils,AV.nils]),AV.int .i64 (Zaf [ZbL (Zaz ms ks rs) (↑(List.length ks)) l,Zaa (Zab fl 1 6) 2])]) (none))) (rB [decide (List.length [ZbL (Zaz ms ks rs) (↑(List.length ks)) l,2]≤1000000),List.all [AV.int .i64 (ZbL (Zaz ms ks rs) (↑(List.length ks)) l),AV.int .i64 2] fun x=>AV.bx x&&Nat.beq (Zad A x) 1] (F (AV.tup [AV.agg (Row.gen [.int .i64 0, .int .i64 0,AV.nils, .bool false, .int .i64 0, .bool false,AV.nils,AV.nils]),AV.int .i64 (Zaf [ZbL (Zaz ms ks rs) (↑(List.length ks)) l,2])]) (none))))
theorem ZCt{A:Ar}{K:KT}{F:FT}{M:MT}{ms ks rs l:List AV}{wn fl:Int} :ZaN A tab B8 33 K F M (.run 37 (.tf (.ty (.ty (.ty (.run 12 (.fn))))) (.fy (.fy (.fy (.run 12 (.fn))))))) (ZIR ms ks rs l wn fl) []=Zyb A K F ms ks rs l wn fl:=by kernel_rfl
def ZzN(ms ks rs l:List AV)(wn fl:Int):AFrame:={ fn:=14,N:=12,env:=[(0,AV.agg (Row.gen [.list (Row.big .str ms), .list (Row.big (.agg [.str, .int .i64]) ks), .list (Row.big (.agg [.str, .int .i64, .int .i64, .int .i64, .int .i64]) rs), .list (Row.big (.agg [.int .i64, .int .i64, .int .i64]) l), .int .i64 wn, .int .i64 fl]))],todo:=[.code a14.code],defs:=[],rnd:=none,ret:=false,res:=[ARes.tmp 2] }
def ZHX(ms ks rs l:List AV)(wn fl:Int):List AFrame:=[(ZzN ms ks rs l wn fl)]
theorem ZtJ(ms ks rs l:List AV)(wn fl:Int):Zat tab 14 [AV.agg (Row.gen [.list (Row.big .str ms), .list (Row.big (.agg [.str, .int .i64]) ks), .list (Row.big (.agg [.str, .int .i64, .int .i64, .int .i64, .int .i64]) rs), .list (Row.big (.agg [.int .i64, .int .i64, .int .i64]) l), .int .i64 wn, .int .i64 fl])]=some (ZzN ms ks rs l wn fl):=rfl
def ZyC(A:Ar)(K:KT)(F:FT)(ms ks rs l:List AV)(wn fl:Int):Prop:=bB (ZpO ms ks rs) (F (AV.bool (A.le (A.int (A.lenA l)) 14)) (none)) (F (AV.bool false) (none))
theorem ZCZ{A:Ar}{K:KT}{F:FT}{M:MT}{ms ks rs l:List AV}{wn fl:Int} :ZaN A tab B8 14 K F M (.run 11 (.tf (.ty (.ty (.ty (.ty (.run 4 (.fn)))))) (.fy (.fy (.fy (.fy (.run 4 (.fn)))))))) (ZHX ms ks rs l wn fl) []=ZyC A K F ms ks rs l wn fl:=by kernel_rfl
def ZAn(ms ks rs l:List AV)(wn fl:Int):AFrame:={ fn:=16,N:=12,env:=[(0,AV.agg (Row.gen [.list (Row.big .str ms), .list (Row.big (.agg [.str, .int .i64]) ks), .list (Row.big (.agg [.str, .int .i64, .int .i64, .int .i64, .int .i64]) rs), .list (Row.big (.agg [.int .i64, .int .i64, .int .i64]) l), .int .i64 wn, .int .i64 fl]))],todo:=[.code a16.code],defs:=[],rnd:=none,ret:=false,res:=[ARes.cell 2 true 6] }
def ZH7(ms ks rs l:List AV)(wn fl:Int):List AFrame:=[(ZAn ms ks rs l wn fl)]
theorem Zw3(ms ks rs l:List AV)(wn fl:Int):Zat tab 16 [AV.agg (Row.gen [.list (Row.big .str ms), .list (Row.big (.agg [.str, .int .i64]) ks), .list (Row.big (.agg [.str, .int .i64, .int .i64, .int .i64, .int .i64]) rs), .list (Row.big (.agg [.int .i64, .int .i64, .int .i64]) l), .int .i64 wn, .int .i64 fl])]=some (ZAn ms ks rs l wn fl):=rfl
def Zxu(A:Ar)(K:KT)(F:FT)(ms ks rs l:List AV)(wn fl:Int):Prop:=rB [decide (List.length l≤1000000),decide (List.length ms≤1000000∧List.length ks≤1000000∧List.length rs≤1000000)] (F (AV.agg (Row.gen [.list (Row.big .str ms), .list (Row.big (.agg [.str, .int .i64]) ks), .list (Row.big (.agg [.str, .int .i64, .int .i64, .int .i64, .int .i64]) rs), .list (Row.big (.agg [.int .i64, .int .i64, .int .i64]) l), .int .i64 wn, .int .i64 fl])) (none))
theorem ZC9{A:Ar}{K:KT}{F:FT}{M:MT}{ms ks rs l:List AV}{wn fl:Int} :ZaN A tab B8 16 K F M (.run 14 (.fn)) (ZH7 ms ks rs l wn fl) []=Zxu A K F ms ks rs l wn fl:=by kernel_rfl
def ZyN(at0 mo:Int)(dn:List AV)(ha:Bool)(ba:Int)(to:Bool)(dw:List Int)(up:List AV):AFrame:={ fn:=35,N:=18,env:=[(0,AV.agg (Row.gen [.int .i64 at0, .int .i64 mo, .list (Row.big (.agg [.int .i64, .int .i64]) dn), .bool ha, .int .i64 ba, .bool to, .list (.ints .i64 dw), .list (Row.big (.agg [.int .i64, .bool]) up)]))],todo:=[.code a35.code],defs:=[],rnd:=none,ret:=false,res:=[ARes.cell 2 true 8] }
def ZIs(at0 mo:Int)(dn:List AV)(ha:Bool)(ba:Int)(to:Bool)(dw:List Int)(up:List AV):List AFrame:=[(ZyN at0 mo dn ha ba to dw up)]
theorem Zt5(at0 mo:Int)(dn:List AV)(ha:Bool)(ba:Int)(to:Bool)(dw:List Int)(up:List AV):Zat tab 35 [AV.agg (Row.gen [.int .i64 at0, .int .i64 mo, .list (Row.big (.agg [.int .i64, .int .i64]) dn), .bool ha, .int .i64 ba, .bool to, .list (.ints .i64 dw), .list (Row.big (.agg [.int .i64, .bool]) up)])]=some (ZyN at0 mo dn ha ba to dw up):=rfl
def ZA4(A:Ar)(K:KT)(F:FT)(at0 mo:Int)(dn:List AV)(ha:Bool)(ba:Int)(to:Bool)(dw:List Int)(up:List AV):Prop:=rB [Nat.ble (0+A.lenA up) 4294967296,List.all [] fun x=>AV.bx x&&Nat.beq (Zad A x) 2,Nat.ble (0+A.len dw) 4294967296,List.all [] fun x=>AV.bx x&&Nat.beq (Zad A x) 1,Nat.ble (0+A.lenA dn) 4294967296,List.all [] fun x=>AV.bx x&&Nat.beq (Zad A x) 2] (F (AV.agg (Row.gen [.int .i64 at0, .int .i64 mo, .list (Row.big (.agg [.int .i64, .int .i64]) dn), .bool ha, .int .i64 ba, .bool to, .list (.ints .i64 dw), .list (Row.big (.agg [.int .i64, .bool]) up)])) (none))
theorem ZEl{A:Ar}{K:KT}{F:FT}{M:MT}{at0 mo:Int}{dn:List AV}{ha:Bool}{ba:Int}{to:Bool}{dw:List Int}{up:List AV} :ZaN A tab B8 35 K F M (.run 50 (.fn)) (ZIs at0 mo dn ha ba to dw up) []=ZA4 A K F at0 mo dn ha ba to dw up:=by kernel_rfl
def ZxG(xs ys:List AV):AFrame:={ fn:=22,N:=26,env:=[(0,AV.list (Row.big (.agg [.int .i64, .int .i64]) xs)),(1,AV.list (Row.big (.agg [.int .i64, .int .i64]) ys))],todo:=[.code a22.code],defs:=[],rnd:=none,ret:=false,res:=[ARes.tmp 4] }
def ZGJ(xs ys:List AV):List AFrame:=[(ZxG xs ys)]
theorem Zwe(xs ys:List AV):Zat tab 22 [AV.list (Row.big (.agg [.int .i64, .int .i64]) xs),AV.list (Row.big (.agg [.int .i64, .int .i64]) ys)]=some (ZxG xs ys):=rfl
def ZgN(xs ys:List AV)(n0:Int):List AFrame:=[{ fn:=22,N:=26,env:=[(0,AV.list (Row.big (.agg [.int .i64, .int .i64]) xs)),(1,AV.list (Row.big (.agg [.int .i64, .int .i64]) ys)),(5,AV.int .i64 n0)],todo:=.code (ACode.gh [] Zxl)::ZDA,defs:=[],rnd:=none,ret:=false,res:=[ARes.tmp 4] }]
def Zfo(xs ys:List AV)(n0:Int):Zac:=[]
abbrev Zhx(xs ys:List AV)(n0:Int):List AFrame×Zac:=(ZgN xs ys n0,Zfo xs ys n0)
def ZuK(A:Ar)(K:KT)(F:FT)(xs ys:List AV):Prop:=bB (A.not (A.eq (A.int (A.lenA xs)) (A.int (A.lenA ys)))) (F (AV.bool false) (none)) (K (Zhx (xs) (ys) (0)))
theorem ZDX{A:Ar}{K:KT}{F:FT}{M:MT}{xs ys:List AV} :ZaN A tab B8 22 K F M (.run 13 (.tf (.run 5 (.fn)) (.run 9 (.hd)))) (ZGJ xs ys) []=ZuK A K F xs ys:=by kernel_rfl
def ZdO(A:Ar)(K:KT)(F:FT)(xs ys:List AV)(n0:Int):Prop:=bB (A.lt n0 (A.int (A.lenA xs))) (rB [Zah (Zah (A.le 0 n0) (Nat.blt (A.nat n0) (A.lenA ys))) true,Zah (Zah (A.le 0 n0) (Nat.blt (A.nat n0) (A.lenA xs))) true] (bB (A.not (Zah (A.eq ((A.nthA xs (A.nat n0)).cellAt 0).toI ((A.nthA ys (A.nat n0)).cellAt 0).toI) (A.eq ((A.nthA xs (A.nat n0)).cellAt 1).toI ((A.nthA ys (A.nat n0)).cellAt 1).toI))) (F (AV.bool false) (none)) (rB [A.inR .i64 (A.add n0 1)] (K (Zhx (xs) (ys) (A.add n0 1)))))) (F (AV.bool true) (none))
theorem ZhP{A:Ar}{K:KT}{F:FT}{M:MT}{xs ys:List AV}{n0:Int} :ZaN A tab B8 22 K F M (.run 9 (.tf (.run 6 (.tf (.run 5 (.fn)) (.run 9 (.hd)))) (.run 6 (.fn)))) (ZgN xs ys n0) (Zfo xs ys n0)=ZdO A K F xs ys n0:=by kernel_rfl
def ZBj(ek en:Int):AFrame:={ fn:=37,N:=29,env:=[(0,AV.agg (Row.gen [.int .i64 ek, .int .i64 en]))],todo:=[.code a37.code],defs:=[],rnd:=none,ret:=false,res:=[ARes.tmp 2] }
def ZHI(ek en:Int):List AFrame:=[(ZBj ek en)]
theorem Zvh(ek en:Int):Zat tab 37 [AV.agg (Row.gen [.int .i64 ek, .int .i64 en])]=some (ZBj ek en):=rfl
def ZgF(A:Ar)(K:KT)(F:FT)(ek en:Int):Prop:=bB (A.not (Zab ek 0 8)) (F (AV.int .i64 15) (none)) (qB [A.eq ek 0] (rB [!A.eq 1000000000000 0] (F (AV.int .i64 (Zaa (Zab en 1 1000000000000) 2)) (none))) (qB [A.eq ek (Int.ofNat 1)] (rB [!A.eq 11 0] (F (AV.int .i64 (Zaa (Zab en 0 11) 2)) (none))) (qB [A.eq ek (Int.ofNat 2)] (rB [!A.eq 5 0] (F (AV.int .i64 (Zaa (Zab en 0 5) 2)) (none))) (qB [A.eq ek (Int.ofNat 3)] (rB [!A.eq 5 0] (F (AV.int .i64 (Zaa (Zab en 0 5) 2)) (none))) (qB [A.eq ek (Int.ofNat 4)] (rB [!A.eq 5 0] (F (AV.int .i64 (Zaa (Zab en 0 5) 2)) (none))) (qB [A.eq ek (Int.ofNat 5)] (rB [!A.eq 5 0] (F (AV.int .i64 (Zaa (Zab en 0 5) 2)) (none))) (qB [A.eq ek (Int.ofNat 6)] (rB [!A.eq 5 0] (F (AV.int .i64 (Zaa (Zab en 0 5) 2)) (none))) (qB [A.eq ek (Int.ofNat 7)] (rB [A.eq 0 0] (F (AV.int .i64 (Zaa (A.eq en 0) 3)) (none))) (rB [A.eq ek (Int.ofNat 8)] (rB [A.eq 0 0] (F (AV.int .i64 (Zaa (A.eq en 0) 3)) (none))))))))))))
theorem ZC5{A:Ar}{K:KT}{F:FT}{M:MT}{ek en:Int} :ZaN A tab B8 37 K F M (.run 40 (.tf (.run 5 (.fn)) (.run 5 (.alt [true] (.run 11 (.fy (.run 15 (.fn)))) (.alt [false,true] (.run 11 (.fy (.run 15 (.fn)))) (.alt [false,false,true] (.run 11 (.fy (.run 15 (.fn)))) (.alt [false,false,false,true] (.run 11 (.fy (.run 15 (.fn)))) (.alt [false,false,false,false,true] (.run 11 (.fy (.run 15 (.fn)))) (.alt [false,false,false,false,false,true] (.run 11 (.fy (.run 15 (.fn)))) (.alt [false,false,false,false,false,false,true] (.run 11 (.fy (.run 15 (.fn)))) (.alt [false,false,false,false,false,false,false,true] (.run 11 (.ty (.run 9 (.fn)))) (.alt [false,false,false,false,false,false,false,false,true] (.run 11 (.ty (.run 9 (.fn)))) (.no))))))))))))) (ZHI ek en) []=ZgF A K F ek en:=by kernel_rfl
def ZBZ(xs:List Int):AFrame:={ fn:=81,N:=6,env:=[(0,AV.list (.ints .i64 xs))],todo:=[.code a81.code],defs:=[],rnd:=none,ret:=false,res:=[ARes.tmp 2] }
def ZHz(xs:List Int):List AFrame:=[(ZBZ xs)]
theorem ZvA(xs:List Int):Zat tab 81 [AV.list (.ints .i64 xs)]=some (ZBZ xs):=rfl
def ZAp(A:Ar)(K:KT)(F:FT)(xs:List Int):Prop:=rB [Nat.ble (0+A.len xs) 4294967296,List.all [] fun x=>AV.bx x&&Nat.beq (Zad A x) 1] (F (AV.row 0 0) (some { e:=3,sz:=1,r:=.ints .i64 xs }))
theorem ZCB{A:Ar}{K:KT}{F:FT}{M:MT}{xs:List Int} :ZaN A tab B8 81 K F M (.run 12 (.fn)) (ZHz xs) []=ZAp A K F xs:=by kernel_rfl
end Go.Proofs.YtkeoeooghhjibaaGreatDoor
