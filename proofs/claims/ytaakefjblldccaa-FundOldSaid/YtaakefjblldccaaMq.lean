/- Plain mathematics: the mean over all orders of seven. -/
import Derived.Test.YtaakefjblldccaaMp
namespace Go.Proofs.Ytaakefjblldccaa
open Go.RowKit

set_option maxRecDepth 1000000 in
theorem ht_70 : ht1 7 0 = ht2 7 0 := by kernel_rfl
set_option maxRecDepth 1000000 in
theorem ht_71 : ht1 7 1 = ht2 7 1 := by kernel_rfl
set_option maxRecDepth 1000000 in
theorem ht_72 : ht1 7 2 = ht2 7 2 := by kernel_rfl
set_option maxRecDepth 1000000 in
theorem ht_73 : ht1 7 3 = ht2 7 3 := by kernel_rfl
set_option maxRecDepth 1000000 in
theorem ht_74 : ht1 7 4 = ht2 7 4 := by kernel_rfl
set_option maxRecDepth 1000000 in
theorem ht_75 : ht1 7 5 = ht2 7 5 := by kernel_rfl
set_option maxRecDepth 1000000 in
theorem ht_76 : ht1 7 6 = ht2 7 6 := by kernel_rfl

end Go.Proofs.Ytaakefjblldccaa
