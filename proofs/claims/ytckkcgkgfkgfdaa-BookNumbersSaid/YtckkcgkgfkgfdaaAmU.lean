/- Orders for the regions that draw theirs, of the functions of this seat. No condition. -/
import Derived.Test.YtckkcgkgfkgfdaaAmT
namespace Go.Proofs.Ytckkcgkgfkgfdaa.AM
def pl6 : List Plan := [⟨1, [0, 1, 2, 3, 4, 5, 6, 7, 8, 9, 10, 11, 12, 13, 14, 15, 16, 17, 18, 19, 20, 21, 22, 23, 24, 27, 25, 26, 28], [25, 28], [(25, [0, 1, 2, 3, 4, 5, 6, 7, 8, 9, 10, 11, 12, 13, 14, 15, 16, 17, 18, 19, 20, 21, 22, 27])]⟩,
  ⟨5, [0, 1, 2, 3, 4, 5, 6, 7, 8, 9, 10, 11, 12, 13, 14, 15, 16, 17], [15, 17], []⟩]
theorem pl6_ok : plansOk pl6 (code Try.f6) = true := by kernel_rfl
def pl7 : List Plan := [⟨6, [0, 1, 2, 3, 4, 5, 6, 7, 8, 9, 10, 11, 12, 13, 14, 15], [10, 13, 15], [(10, [0, 1, 2, 3, 4, 5, 6, 7])]⟩]
theorem pl7_ok : plansOk pl7 (code Try.f7) = true := by kernel_rfl
def pl8 : List Plan := [⟨1, [0, 1, 2, 3, 4, 5, 6, 7, 8, 9, 11, 12, 13, 16, 10, 14, 15, 17], [10, 14, 17], [(10, [0, 1, 2, 3, 4, 5, 6, 7, 11, 12, 13, 16]), (14, [0, 1, 2, 3, 4, 5, 6, 7, 16])]⟩]
theorem pl8_ok : plansOk pl8 (code Try.f8) = true := by kernel_rfl
def pl11 : List Plan := [⟨6, [0, 1, 2, 3, 4, 5, 6, 7, 8, 9, 10, 11, 12, 13, 14, 15], [13, 15], [(13, [0, 1, 2, 3])]⟩]
theorem pl11_ok : plansOk pl11 (code Try.f11) = true := by kernel_rfl
def pl16 : List Plan := [⟨4, [0, 1, 3, 4, 6, 7, 2, 9, 5, 8, 10, 11, 12, 13, 14], [2, 5, 8, 10, 12, 14], [(2, [3, 4, 6, 7]), (5, [6, 7, 9]), (8, [9])]⟩,
  ⟨5, [0, 1, 2, 3, 4, 5, 6], [3], [(3, [0])]⟩,
  ⟨9, [0, 1, 2, 3, 4, 5, 6, 7, 8, 9, 10, 11, 12], [7, 9, 12], [(7, [0, 1, 2, 3, 4]), (9, [0])]⟩]
theorem pl16_ok : plansOk pl16 (code Try.f16) = true := by kernel_rfl
def pl17 : List Plan := [⟨11, [0, 1, 2, 3, 4, 5, 6, 7, 8, 9, 10, 11, 12, 13, 14, 15, 16], [], []⟩]
theorem pl17_ok : plansOk pl17 (code Try.f17) = true := by kernel_rfl
def pl19 : List Plan := [⟨3, [0, 1, 2, 3, 4, 5, 6, 7, 8, 9], [], []⟩]
theorem pl19_ok : plansOk pl19 (code Try.f19) = true := by kernel_rfl
def pl20 : List Plan := [⟨4, [0, 1, 3, 4, 2, 6, 5, 7, 8, 9], [2, 5, 7, 9], [(2, [3, 4]), (5, [6])]⟩,
  ⟨8, [0, 1, 2, 3, 4, 5, 6, 7, 8, 9, 10, 11, 12], [9, 12], [(9, [0, 1, 2])]⟩]
theorem pl20_ok : plansOk pl20 (code Try.f20) = true := by kernel_rfl
def pl21 : List Plan := [⟨3, [0, 1, 2, 3, 4, 6, 7, 8, 9, 10, 5, 11, 12, 13], [5, 11, 13], [(5, [6, 7, 8, 9, 10])]⟩]
theorem pl21_ok : plansOk pl21 (code Try.f21) = true := by kernel_rfl
def pl25 : List Plan := [⟨5, [0, 1, 2, 3, 4, 5, 6, 7, 8, 9, 10, 11, 12, 13, 14], [13], []⟩]
theorem pl25_ok : plansOk pl25 (code Try.f25) = true := by kernel_rfl
def pl26 : List Plan := [⟨1, [0, 1, 3, 4, 2, 6, 5, 7, 8, 9], [2, 5, 7, 9], [(2, [3, 4]), (5, [6])]⟩,
  ⟨5, [0, 1, 2, 3, 4, 5, 6, 7, 8, 9, 10, 11, 12], [9, 12], [(9, [0, 1, 2])]⟩]
theorem pl26_ok : plansOk pl26 (code Try.f26) = true := by kernel_rfl
def pl27 : List Plan := [⟨1, [0, 1, 3, 4, 5, 2, 6, 7], [2, 6], [(2, [3, 4, 5])]⟩,
  ⟨5, [0, 1, 2, 3, 4, 5, 6, 7, 8, 9, 10, 11], [11], []⟩]
theorem pl27_ok : plansOk pl27 (code Try.f27) = true := by kernel_rfl
def pl38 : List Plan := [⟨1, [0, 2, 3, 4, 1, 5, 6], [1, 6], [(1, [2, 3, 4])]⟩]
theorem pl38_ok : plansOk pl38 (code Try.f38) = true := by kernel_rfl
def pl41 : List Plan := [⟨4, [0, 1, 2, 3, 4, 5, 6, 7], [7], []⟩]
theorem pl41_ok : plansOk pl41 (code Try.f41) = true := by kernel_rfl
def pl42 : List Plan := [⟨2, [0, 1, 2, 3, 4, 5, 6, 7, 8, 9, 11, 10, 12, 13, 14, 15, 16, 17, 18, 19, 20, 21, 22, 23, 24, 25, 26, 27, 28, 29], [10], [(10, [11])]⟩]
theorem pl42_ok : plansOk pl42 (code Try.f42) = true := by kernel_rfl
def pl43 : List Plan := [⟨3, [0, 1, 2, 3, 4, 5, 6, 7, 8, 9, 10], [5], []⟩,
  ⟨6, [0, 1, 2, 3, 4, 5, 6, 7, 8, 9, 10, 11, 12], [10], [(10, [0, 1, 2, 3])]⟩,
  ⟨7, [0, 1, 2, 3, 4, 5, 6, 7, 8, 9], [8], []⟩,
  ⟨10, [0, 1, 2, 3, 4, 5, 6, 7, 8, 9, 10, 11, 12, 13, 19, 14, 15, 16, 17, 18, 20, 21, 22], [14, 20], [(14, [19]), (20, [17, 18])]⟩,
  ⟨13, [0, 1, 2, 3, 4, 5, 6, 7, 8, 9, 10, 11, 16, 12, 13, 14, 15, 17, 18], [12, 17], [(12, [16]), (17, [15])]⟩,
  ⟨14, [0, 1, 2, 3, 4, 5, 6, 7, 8], [6, 8], [(6, [1, 3])]⟩]
theorem pl43_ok : plansOk pl43 (code Try.f43) = true := by kernel_rfl
def pl46 : List Plan := [⟨1, [0, 1, 2, 3, 4, 5, 6, 7, 8, 9, 10, 11, 12, 13], [], []⟩,
  ⟨2, [0, 1, 2, 3, 4, 9, 5, 6, 7, 8, 10, 11], [5, 10], [(5, [9]), (10, [8])]⟩,
  ⟨7, [0, 1, 2, 3, 4, 5, 6, 7, 8, 9, 10], [5, 9], [(9, [8])]⟩,
  ⟨10, [0, 1, 2, 3, 4, 5, 6, 7, 8, 9, 10, 11, 12], [7, 11], [(11, [10])]⟩,
  ⟨13, [0, 1, 2, 3, 4, 5, 6, 7, 8, 9, 10], [5, 9], [(9, [8])]⟩]
theorem pl46_ok : plansOk pl46 (code Try.f46) = true := by kernel_rfl
def pl51 : List Plan := [⟨5, [0, 1, 2, 3, 4, 5, 6, 7], [6], []⟩]
theorem pl51_ok : plansOk pl51 (code Try.f51) = true := by kernel_rfl
def pl71 : List Plan := [⟨1, [0, 1, 2, 3, 4, 5, 6, 7, 8, 9, 10, 11, 12, 13, 14, 15, 16, 17, 18, 19, 20, 21, 22, 23, 24, 25, 26], [20, 26], [(20, [0]), (26, [23])]⟩]
theorem pl71_ok : plansOk pl71 (code Try.f71) = true := by kernel_rfl
def pl81 : List Plan := [⟨1, [0, 1, 3, 4, 2, 5, 6, 7], [2, 5, 7], [(2, [3, 4])]⟩]
theorem pl81_ok : plansOk pl81 (code Try.f81) = true := by kernel_rfl
end Go.Proofs.Ytckkcgkgfkgfdaa.AM
