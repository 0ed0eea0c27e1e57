/- Small laws on lists that are read at a place of a number. No condition. -/
import Derived.Test.YtggchfdjpfodfaaPFoldOfx0
namespace Go.Proofs.Ytggchfdjpfodfaa.H
open Go.RowKit Go.Proofs.YtggchfdjpfodfaaW.PrintWords Go.Proofs.Ytggchfdjpfodfaa.PFoldOf

theorem rd_mem {l : List S45} {k : Nat} (h : k < l.length) : rd_T45 l (k : Int) ∈ l := by
  unfold rd_T45
  rw [Int.toNat_natCast, List.getD_eq_getElem?_getD, List.getElem?_eq_getElem h]
  exact List.getElem_mem h
theorem take_rd {l : List S48} {k : Nat} (h : k < l.length) : l.take (k + 1) = l.take k ++ [rd_T48 l (k : Int)] := by
  unfold rd_T48
  rw [Int.toNat_natCast, List.getD_eq_getElem?_getD, List.getElem?_eq_getElem h, List.take_succ_eq_append_getElem h]
  rfl
theorem take_rd5 {l : List S45} {k : Nat} (h : k < l.length) : l.take (k + 1) = l.take k ++ [rd_T45 l (k : Int)] := by
  unfold rd_T45
  rw [Int.toNat_natCast, List.getD_eq_getElem?_getD, List.getElem?_eq_getElem h, List.take_succ_eq_append_getElem h]
  rfl
theorem rd_mem' {l : List S48} {k : Nat} (h : k < l.length) : rd_T48 l (k : Int) ∈ l := by
  unfold rd_T48
  rw [Int.toNat_natCast, List.getD_eq_getElem?_getD, List.getElem?_eq_getElem h]
  exact List.getElem_mem h

theorem rd_mem2 {l : List S29} {k : Nat} (h : k < l.length) : rd_T29 l (k : Int) ∈ l := by
  unfold rd_T29
  rw [Int.toNat_natCast, List.getD_eq_getElem?_getD, List.getElem?_eq_getElem h]
  exact List.getElem_mem h
theorem take_rd2 {l : List S29} {k : Nat} (h : k < l.length) : l.take (k + 1) = l.take k ++ [rd_T29 l (k : Int)] := by
  unfold rd_T29
  rw [Int.toNat_natCast, List.getD_eq_getElem?_getD, List.getElem?_eq_getElem h, List.take_succ_eq_append_getElem h]
  rfl
end Go.Proofs.Ytggchfdjpfodfaa.H
