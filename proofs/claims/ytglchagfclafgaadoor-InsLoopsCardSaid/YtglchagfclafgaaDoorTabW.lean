/- From the row's condition to what the library reads. -/
import Derived.Test.YtglchagfclafgaaDoorRows
import Derived.Test.YtglchagfclafgaaDoorInsG
import Derived.LaidSub
import Derived.MakeChecks
import Derived.Lib.LaidTab
namespace Go.Proofs.YtglchagfclafgaaDoor
open Go Go.RowKit

theorem tab_of {w : World} (h : laidMetH Tryd.prog Rows.insMayRow.laid w) : Lib.TabIs Tryd.prog w "internal/strconv.uint64pow10" .u64 Lib.pow10Tab := by
  rw [MakeChecks.laidMetH_plain _ _ _ (by kernel_rfl)] at h
  have h2 := h.filter (fun x => x.1 == "internal/strconv.uint64pow10")
  have e : Rows.insMayRow.laid.filter (fun x => x.1 == "internal/strconv.uint64pow10") = [("internal/strconv.uint64pow10", Lib.tabData .u64 Lib.pow10Tab)] := by kernel_rfl
  rw [e] at h2
  exact Lib.tabIs_of_head tabG (t := 101) (e := 80) (n := 20) (by kernel_rfl) (by kernel_rfl) (by kernel_rfl) (by kernel_rfl) (by kernel_rfl) h2
end Go.Proofs.YtglchagfclafgaaDoor
