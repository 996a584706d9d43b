/- Every code of the table stands for the program's. Printed by gentab.py. -/
import Derived.Test.YtimmgjppippdiaaTa
import Derived.Test.YtimmgjppippdiaaChecked
import Derived.KernelRfl
namespace Go.Proofs.Ytimmgjppippdiaa
set_option maxRecDepth 100000
theorem m10 : mfunc Try.prog 10 a10 = true := by kernel_rfl
theorem m12 : mfunc Try.prog 12 a12 = true := by kernel_rfl
theorem m18 : mfunc Try.prog 18 a18 = true := by kernel_rfl
theorem m19 : mfunc Try.prog 19 a19 = true := by kernel_rfl
theorem m20 : mfunc Try.prog 20 a20 = true := by kernel_rfl
theorem m23 : mfunc Try.prog 23 a23 = true := by kernel_rfl
theorem m26 : mfunc Try.prog 26 a26 = true := by kernel_rfl
theorem m34 : mfunc Try.prog 34 a34 = true := by kernel_rfl
theorem m35 : mfunc Try.prog 35 a35 = true := by kernel_rfl
theorem m36 : mfunc Try.prog 36 a36 = true := by kernel_rfl
theorem m37 : mfunc Try.prog 37 a37 = true := by kernel_rfl
theorem m38 : mfunc Try.prog 38 a38 = true := by kernel_rfl
theorem m39 : mfunc Try.prog 39 a39 = true := by kernel_rfl
theorem m40 : mfunc Try.prog 40 a40 = true := by kernel_rfl
theorem m41 : mfunc Try.prog 41 a41 = true := by kernel_rfl
theorem m42 : mfunc Try.prog 42 a42 = true := by kernel_rfl
theorem m45 : mfunc Try.prog 45 a45 = true := by kernel_rfl
theorem m47 : mfunc Try.prog 47 a47 = true := by kernel_rfl
theorem m48 : mfunc Try.prog 48 a48 = true := by kernel_rfl
theorem m49 : mfunc Try.prog 49 a49 = true := by kernel_rfl
theorem m50 : mfunc Try.prog 50 a50 = true := by kernel_rfl
theorem m53 : mfunc Try.prog 53 a53 = true := by kernel_rfl
theorem m54 : mfunc Try.prog 54 a54 = true := by kernel_rfl
theorem m55 : mfunc Try.prog 55 a55 = true := by kernel_rfl
theorem m57 : mfunc Try.prog 57 a57 = true := by kernel_rfl
theorem m67 : mfunc Try.prog 67 a67 = true := by kernel_rfl
theorem m68 : mfunc Try.prog 68 a68 = true := by kernel_rfl
theorem m69 : mfunc Try.prog 69 a69 = true := by kernel_rfl
theorem m70 : mfunc Try.prog 70 a70 = true := by kernel_rfl
theorem m71 : mfunc Try.prog 71 a71 = true := by kernel_rfl
theorem m72 : mfunc Try.prog 72 a72 = true := by kernel_rfl
theorem m77 : mfunc Try.prog 77 a77 = true := by kernel_rfl
theorem m94 : mfunc Try.prog 94 a94 = true := by kernel_rfl
theorem m95 : mfunc Try.prog 95 a95 = true := by kernel_rfl
theorem m96 : mfunc Try.prog 96 a96 = true := by kernel_rfl
theorem m97 : mfunc Try.prog 97 a97 = true := by kernel_rfl
theorem m98 : mfunc Try.prog 98 a98 = true := by kernel_rfl
theorem m99 : mfunc Try.prog 99 a99 = true := by kernel_rfl
theorem m103 : mfunc Try.prog 103 a103 = true := by kernel_rfl
theorem m104 : mfunc Try.prog 104 a104 = true := by kernel_rfl
theorem m105 : mfunc Try.prog 105 a105 = true := by kernel_rfl
theorem m106 : mfunc Try.prog 106 a106 = true := by kernel_rfl
theorem m107 : mfunc Try.prog 107 a107 = true := by kernel_rfl
theorem m108 : mfunc Try.prog 108 a108 = true := by kernel_rfl
theorem m109 : mfunc Try.prog 109 a109 = true := by kernel_rfl
theorem m111 : mfunc Try.prog 111 a111 = true := by kernel_rfl
theorem m112 : mfunc Try.prog 112 a112 = true := by kernel_rfl
theorem m113 : mfunc Try.prog 113 a113 = true := by kernel_rfl
theorem m114 : mfunc Try.prog 114 a114 = true := by kernel_rfl
theorem m115 : mfunc Try.prog 115 a115 = true := by kernel_rfl
theorem m116 : mfunc Try.prog 116 a116 = true := by kernel_rfl
theorem m117 : mfunc Try.prog 117 a117 = true := by kernel_rfl
theorem m120 : mfunc Try.prog 120 a120 = true := by kernel_rfl
theorem m121 : mfunc Try.prog 121 a121 = true := by kernel_rfl
theorem m122 : mfunc Try.prog 122 a122 = true := by kernel_rfl
theorem m124 : mfunc Try.prog 124 a124 = true := by kernel_rfl
theorem m125 : mfunc Try.prog 125 a125 = true := by kernel_rfl
theorem m126 : mfunc Try.prog 126 a126 = true := by kernel_rfl
theorem m127 : mfunc Try.prog 127 a127 = true := by kernel_rfl
theorem m128 : mfunc Try.prog 128 a128 = true := by kernel_rfl
theorem m129 : mfunc Try.prog 129 a129 = true := by kernel_rfl
theorem m130 : mfunc Try.prog 130 a130 = true := by kernel_rfl
theorem m131 : mfunc Try.prog 131 a131 = true := by kernel_rfl
theorem m132 : mfunc Try.prog 132 a132 = true := by kernel_rfl
theorem m133 : mfunc Try.prog 133 a133 = true := by kernel_rfl
theorem m134 : mfunc Try.prog 134 a134 = true := by kernel_rfl
theorem m140 : mfunc Try.prog 140 a140 = true := by kernel_rfl
theorem m146 : mfunc Try.prog 146 a146 = true := by kernel_rfl
theorem m147 : mfunc Try.prog 147 a147 = true := by kernel_rfl
theorem m149 : mfunc Try.prog 149 a149 = true := by kernel_rfl
theorem m150 : mfunc Try.prog 150 a150 = true := by kernel_rfl
theorem m151 : mfunc Try.prog 151 a151 = true := by kernel_rfl
theorem m152 : mfunc Try.prog 152 a152 = true := by kernel_rfl
theorem m153 : mfunc Try.prog 153 a153 = true := by kernel_rfl
theorem m154 : mfunc Try.prog 154 a154 = true := by kernel_rfl
theorem m155 : mfunc Try.prog 155 a155 = true := by kernel_rfl
theorem m156 : mfunc Try.prog 156 a156 = true := by kernel_rfl
theorem m160 : mfunc Try.prog 160 a160 = true := by kernel_rfl
theorem m161 : mfunc Try.prog 161 a161 = true := by kernel_rfl
theorem m163 : mfunc Try.prog 163 a163 = true := by kernel_rfl
theorem m164 : mfunc Try.prog 164 a164 = true := by kernel_rfl
theorem m165 : mfunc Try.prog 165 a165 = true := by kernel_rfl
theorem m166 : mfunc Try.prog 166 a166 = true := by kernel_rfl
theorem m167 : mfunc Try.prog 167 a167 = true := by kernel_rfl
theorem m168 : mfunc Try.prog 168 a168 = true := by kernel_rfl
theorem m169 : mfunc Try.prog 169 a169 = true := by kernel_rfl
theorem m172 : mfunc Try.prog 172 a172 = true := by kernel_rfl
theorem m174 : mfunc Try.prog 174 a174 = true := by kernel_rfl
theorem m175 : mfunc Try.prog 175 a175 = true := by kernel_rfl
theorem tab_ok : TabOK Try.prog tab := FTree.ok (t := tree) ⟨⟨⟨⟨⟨⟨⟨trivial, m10, trivial⟩, m12, trivial⟩, m18, ⟨⟨trivial, m19, trivial⟩, m20, trivial⟩⟩, m23, ⟨⟨⟨trivial, m26, trivial⟩, m34, trivial⟩, m35, ⟨⟨trivial, m36, trivial⟩, m37, trivial⟩⟩⟩, m38, ⟨⟨⟨⟨trivial, m39, trivial⟩, m40, trivial⟩, m41, ⟨⟨trivial, m42, trivial⟩, m45, trivial⟩⟩, m47, ⟨⟨⟨trivial, m48, trivial⟩, m49, trivial⟩, m50, ⟨trivial, m53, trivial⟩⟩⟩⟩, m54, ⟨⟨⟨⟨⟨trivial, m55, trivial⟩, m57, trivial⟩, m67, ⟨⟨trivial, m68, trivial⟩, m69, trivial⟩⟩, m70, ⟨⟨⟨trivial, m71, trivial⟩, m72, trivial⟩, m77, ⟨trivial, m94, trivial⟩⟩⟩, m95, ⟨⟨⟨⟨trivial, m96, trivial⟩, m97, trivial⟩, m98, ⟨⟨trivial, m99, trivial⟩, m103, trivial⟩⟩, m104, ⟨⟨⟨trivial, m105, trivial⟩, m106, trivial⟩, m107, ⟨trivial, m108, trivial⟩⟩⟩⟩⟩, m109, ⟨⟨⟨⟨⟨⟨trivial, m111, trivial⟩, m112, trivial⟩, m113, ⟨⟨trivial, m114, trivial⟩, m115, trivial⟩⟩, m116, ⟨⟨⟨trivial, m117, trivial⟩, m120, trivial⟩, m121, ⟨⟨trivial, m122, trivial⟩, m124, trivial⟩⟩⟩, m125, ⟨⟨⟨⟨trivial, m126, trivial⟩, m127, trivial⟩, m128, ⟨⟨trivial, m129, trivial⟩, m130, trivial⟩⟩, m131, ⟨⟨⟨trivial, m132, trivial⟩, m133, trivial⟩, m134, ⟨trivial, m140, trivial⟩⟩⟩⟩, m146, ⟨⟨⟨⟨⟨trivial, m147, trivial⟩, m149, trivial⟩, m150, ⟨⟨trivial, m151, trivial⟩, m152, trivial⟩⟩, m153, ⟨⟨⟨trivial, m154, trivial⟩, m155, trivial⟩, m156, ⟨trivial, m160, trivial⟩⟩⟩, m161, ⟨⟨⟨⟨trivial, m163, trivial⟩, m164, trivial⟩, m165, ⟨⟨trivial, m166, trivial⟩, m167, trivial⟩⟩, m168, ⟨⟨⟨trivial, m169, trivial⟩, m172, trivial⟩, m174, ⟨trivial, m175, trivial⟩⟩⟩⟩⟩⟩
theorem follows : Try.prog.follows .mixedOrders = true := by kernel_rfl
end Go.Proofs.Ytimmgjppippdiaa
