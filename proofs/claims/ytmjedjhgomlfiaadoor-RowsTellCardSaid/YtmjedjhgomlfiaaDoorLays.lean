/- What a row's listed variables give the walks. -/
import Derived.Test.YtmjedjhgomlfiaaDoorRows
import Derived.Test.YtmjedjhgomlfiaaDoorNum
import Derived.Stop.LaidErr
import Derived.LaidSub
import Derived.Lib.LaidTab
namespace Go.Proofs.YtmjedjhgomlfiaaDoor
open Go.RowKit

theorem gES : Tryd.prog.globalNamed "strconv.ErrSyntax" = some 3 := by kernel_rfl
theorem gER : Tryd.prog.globalNamed "strconv.ErrRange" = some 4 := by kernel_rfl
theorem gESType : (Tryd.prog.globals[3]?).map (·.type) = some 84 := by kernel_rfl
theorem gERType : (Tryd.prog.globals[4]?).map (·.type) = some 84 := by kernel_rfl
theorem gP : Tryd.prog.globalNamed "internal/strconv.uint64pow10" = some 6 := by kernel_rfl
theorem gPT : (Tryd.prog.globals[6]?).map (·.type) = some 149 := by kernel_rfl
theorem powData : (Rows.laid_internal_strconv_uint64pow10 : DataW Unit) = Lib.tabData .u64 Lib.pow10Tab := by kernel_rfl
theorem cells155 : Tryd.prog.cellsOf 155 = 1 := by kernel_rfl
theorem cells9' : Tryd.prog.cellsOf 9 = 1 := by kernel_rfl
theorem star : "*" ++ "errors.errorString" = "*errors.errorString" := by decide
theorem row153 (u : TypeId) (h : Tryd.prog.typeName? 3 u = some "*errors.errorString") : u = 153 :=
  typeName_ptr_named (nm := "errors.errorString") (by rw [star]; kernel_rfl) (by kernel_rfl) (by decide) u (by rw [star]; exact h)

theorem lay_of_laid {l : List (String × DataW Unit)} {W : World} (h : laidMet Tryd.prog l W)
    (h1 : l.filter (fun x => x.1 == "internal/strconv.uint64pow10") = [("internal/strconv.uint64pow10", Rows.laid_internal_strconv_uint64pow10)])
    (h2 : l.filter (fun x => x.1 == "strconv.ErrSyntax") = [("strconv.ErrSyntax", Rows.laid_strconv_ErrSyntax)])
    (h3 : l.filter (fun x => x.1 == "strconv.ErrRange") = [("strconv.ErrRange", Rows.laid_strconv_ErrRange)]) : Lay W := by
  have k1 := h.filter (fun x => x.1 == "internal/strconv.uint64pow10")
  have k2 := h.filter (fun x => x.1 == "strconv.ErrSyntax")
  have k3 := h.filter (fun x => x.1 == "strconv.ErrRange")
  rw [h1] at k1; rw [h2] at k2; rw [h3] at k3
  refine ⟨?_, ?_, ?_⟩
  · rw [powData] at k1
    exact Lib.tabIs_of_head gP gPT Tryd.underlying149 Tryd.underlying137 (by kernel_rfl) (by kernel_rfl) k1
  · obtain ⟨a0, s0, hv0, -⟩ := laid_sentinel k2 gES gESType Tryd.underlying84 row153 Tryd.underlying153 Tryd.underlying155 rfl rfl Tryd.underlying9 cells155 cells9'
    exact ⟨_, _, hv0⟩
  · obtain ⟨a0, s0, hv0, -⟩ := laid_sentinel k3 gER gERType Tryd.underlying84 row153 Tryd.underlying153 Tryd.underlying155 rfl rfl Tryd.underlying9 cells155 cells9'
    exact ⟨_, _, hv0⟩
end Go.Proofs.YtmjedjhgomlfiaaDoor
