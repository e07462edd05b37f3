/- What the walks of the laws of feed.Feed share. -/
import Derived.Test.YtkljeafnmcmifaaDoorFeedL
import Derived.Test.YtkljeafnmcmifaaDoorSpecFeed2
set_option linter.unusedVariables false
namespace Go.Proofs.YtkljeafnmcmifaaDoor.Fee
open Go.RowKit Go.IntWalk Go.Proofs.YtkljeafnmcmifaaDoorW.PrintWords Go.Proofs.YtkljeafnmcmifaaDoor.B Go.Proofs.YtkljeafnmcmifaaDoor.PB Go.Proofs.YtkljeafnmcmifaaDoor.SCode Go.Proofs.YtkljeafnmcmifaaDoor.Frm

theorem parse_nil : parse [] = ([], 0, none) := by
  rw [parse_err (q := (0, 30)) (by decide)]
  simp
theorem gd_length (f : Gd) : f.b.length ≤ 16400 := by
  have := numI_length (f.xs.length : Int)
  have := checkE_ok f.h
  unfold Gd.b
  simp [frameB]; omega
theorem gds_length : ∀ fs : List Gd, (fs.flatMap Gd.b).length ≤ fs.length * 16400
  | [] => by simp
  | f :: fs => by
    have h1 := gd_length f
    have h2 := gds_length fs
    rw [List.flatMap_cons, List.length_append, List.length_cons]
    omega
theorem gds_snoc (fs : List Gd) (f : Gd) : (fs ++ [f]).flatMap Gd.b = fs.flatMap Gd.b ++ f.b := by simp
theorem addS_rd (P : List UInt8) : (addS [] 0 none P).rd ≤ P.length := by
  rw [addS_nil]
  have := parse_le P
  cases (parse P).2.2 <;> exact this
theorem addS_out (P : List UInt8) : (addS [] 0 none P).out.length ≤ P.length := by
  rw [addS_nil]
  have := parse_le P
  have := parse_len P
  cases (parse P).2.2 <;> simp only <;> omega
theorem addS_flat (fs : List Gd) : addS [] 0 none (fs.flatMap Gd.b) = ⟨fs.map Gd.q, [], (fs.flatMap Gd.b).length, none⟩ := by
  have h := parse_flat [] fs
  rw [List.append_nil, parse_nil] at h
  rw [addS_nil, h]
  simp
theorem addS_wrong (fs : List Gd) (y : UInt8) (hy : y.toNat < 8) : addS [] 0 none (fs.flatMap Gd.b ++ [y]) = ⟨fs.map Gd.q, [], (fs.flatMap Gd.b).length, some ((fs.flatMap Gd.b).length, 40)⟩ := by
  have h := parse_flat [y] fs
  rw [parse_bad1 y hy] at h
  rw [addS_nil, h]
  simp
end Go.Proofs.YtkljeafnmcmifaaDoor.Fee
