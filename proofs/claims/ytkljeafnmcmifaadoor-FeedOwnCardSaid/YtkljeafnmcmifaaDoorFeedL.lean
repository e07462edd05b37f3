/- The statements' heads of chapter 05: plain, feeds: walked. -/
import Derived.Test.YtkljeafnmcmifaaDoorFeedA
import Derived.Test.YtkljeafnmcmifaaDoorFrameL
set_option linter.unusedVariables false
set_option linter.unusedSimpArgs false
namespace Go.Proofs.YtkljeafnmcmifaaDoor.Fee
open Go.RowKit Go.IntWalk Go.Proofs.YtkljeafnmcmifaaDoorW.PrintWords Go.Proofs.YtkljeafnmcmifaaDoor.B Go.Proofs.YtkljeafnmcmifaaDoor.PB Go.Proofs.YtkljeafnmcmifaaDoor.Err Go.Proofs.YtkljeafnmcmifaaDoor.SCode Go.Proofs.YtkljeafnmcmifaaDoor.Frm

theorem plain5_calls (k s : Int) (d : Value) (xs : List UInt8) (w : World) (hd : RdB w d xs) : Calls Tryd.prog 11 #[frV k s d] w fun e w' => e = .returned (.agg #[.int .i64 k, .int .i64 s, .string (bstr xs)]) ∧ Fr No w w' := by
  have hf : Fr No w w := Fr.refl _ _
  have F0 := Aside0.mk hf; clear hf
  obtain ⟨A, c, rfl, _⟩ := id hd
  have HD := Aside0.mk hd; clear hd
  go_enter Tryd.func11, Tryd.ntmps11
  have hc : ∀ o o', (convert 22 9 (.slice A xs.length c)).run Tryd.prog ((w.alloc o).alloc o') = .ok (.string (bstr xs)) ((w.alloc o).alloc o') := fun o o' => str_of_rd (HD.out.no (((Fr.refl No w).alloc o).alloc o'))
  go_wp2
  (try simp only [Exit.inBlock, Exit.then]); refine bodyPost_ret (results_single (r := .cell 2 36) rfl (.cell (w.heap.size + 1) 36 #[.int .i64 k, .int .i64 s, .string (bstr xs)] (0, 0) _ rfl (by simpa using heap_alloc_new (w.alloc (.cells #[.int .i64 k, .int .i64 s, .slice A xs.length c] 39)) (.cells #[.int .i64 k, .int .i64 s, .string (bstr xs)] 36)) Tryd.underlying36 rfl (by kernel_rfl) .nil)) rfl ?_
  exact ⟨rfl, (F0.out.alloc _).alloc _⟩

theorem add_a : addS [] 0 none [26] = ⟨[], [26], 0, none⟩ := by decide +kernel
theorem add_b : addS [26] 0 none [1, 120, 121] = ⟨[(3, 2, [120])], [121], 3, none⟩ := by decide +kernel
/-- What a feed's methods leave of the rest. -/
theorem fs_new {w0 w w' : World} {g : Nat} {v : Value} (h : Fr No w0 w) (k : Fr (Fs g v) w w') (hg : w0.heap.size ≤ g) (hv : ∀ q, v.ownBlock = some q → w0.heap.size ≤ q) : Fr No w0 w' :=
  h.trans k (fun q hq hb => by
    rcases hb with hb | hb
    · omega
    · have := hv q hb; omega)
theorem aw_new {w0 w : World} {v v' : Value} (hs : w0.heap.size ≤ w.heap.size) (hv : ∀ q, v.ownBlock = some q → w0.heap.size ≤ q) (h : Aw w v v') : ∀ q, v'.ownBlock = some q → w0.heap.size ≤ q := fun q hq => by
  rcases h q hq with h | h
  · exact hv q h
  · omega
set_option maxHeartbeats 4000000 in
set_option maxRecDepth 100000 in
theorem feeds_calls (w : World) (hg : Gl w) : Calls Tryd.prog 7 #[] w fun en w' => en = .returned (.bool true) ∧ Fr No w w' := by
  have RA : ∀ W : World, RdB (W.alloc (.cells #[.int .u8 26] 5 (1, 2))) (.slice (some ⟨W.heap.size, 0, none⟩) 1 1) [26] := fun W => rd_lit W [26] 5 (1, 2) (by simp [maxLen])
  have ha : ∀ W : World, (convert 22 22 (.slice (some ⟨W.heap.size, 0, none⟩) 1 1)).run Tryd.prog (W.alloc (.cells #[.int .u8 26] 5)) = .ok (.slice (some ⟨W.heap.size, 0, none⟩) 1 1) (W.alloc (.cells #[.int .u8 26] 5 (1, 2))) := fun W => Lib.run_convert_bytes_const (P := Tryd.prog) W 22 5 #[.int .u8 26] 1 1 Tryd.underlying22 Tryd.underlying5
  have HG := Aside0.mk hg
  have hgl := hg.lt
  clear hg
  go_enter Tryd.func7, Tryd.ntmps7
  go_upto_region 2 with fail
  have D0 : Aside0 (Fd (w.alloc (.cells #[.slice none 0 0, .int .i64 0, .nilIface] 31)) w.heap.size 31 [] [] (.slice none 0 0) [] 0 none) := ⟨Fd.new w hgl _ (by decide)⟩
  have F0 : Aside0 (Fr No w (w.alloc (.cells #[.slice none 0 0, .int .i64 0, .nilIface] 31))) := ⟨(Fr.refl _ _).alloc _⟩
  change Code.wp _ _ _ _ (w.alloc (.cells #[.slice none 0 0, .int .i64 0, .nilIface] 31))
  generalize w.alloc (.cells #[.slice none 0 0, .int .i64 0, .nilIface] 31) = w1 at D0 F0 ⊢
  obtain ⟨g, hg⟩ : ∃ g, w.heap.size = g := ⟨_, rfl⟩
  rw [hg] at D0 ⊢
  have HS : Aside0 (w.heap.size ≤ g) := ⟨by omega⟩
  clear hg
  have ha1 := ha w1
  go_wp2_with fail
  have E1 : Aside0 (Fr No w1 (w1.alloc (.cells #[.int .u8 26] 5 (1, 2)))) := ⟨(Fr.refl _ _).alloc _⟩
  have h9 := add_calls (HG.out.no (F0.out.none E1.out)) (D0.out.no E1.out) 0 rfl _ [26] (RA w1) (by omega) (by simp)
  rw [add_a] at h9
  refine h9.mono ?_
  clear h9
  rintro e w2 ⟨vo, v1, rfl, hd, ho, hf, ha2⟩
  have F2 : Aside0 (Fr No w w2) := ⟨fs_new (F0.out.none E1.out) hf HS.out (fun q hq => by cases hq)⟩
  have N2 : Aside0 (∀ q, v1.ownBlock = some q → w.heap.size ≤ q) := ⟨aw_new (F0.out.none E1.out).size (fun q hq => by cases hq) ha2⟩
  have D2 := Aside0.mk hd
  obtain ⟨fs, hfo, hfm, _⟩ := ho.fs
  obtain ⟨A2, c2, rfl⟩ := hfo.form
  have hfl : fs.length = 0 := by have := congrArg List.length hfm; simpa using this
  rw [hfl]
  clear hd ho hf ha2 hfo hfm hfl ha1 ha RA
  have RB : Aside0 (RdB (w2.alloc (.cells #[.int .u8 1, .int .u8 120, .int .u8 121] 5 (3, 4))) (.slice (some ⟨w2.heap.size, 0, none⟩) 3 3) [1, 120, 121]) := ⟨rd_lit w2 [1, 120, 121] 5 (3, 4) (by simp [maxLen])⟩
  have hb1 : (convert 22 22 (.slice (some ⟨w2.heap.size, 0, none⟩) 3 3)).run Tryd.prog (w2.alloc (.cells #[.int .u8 1, .int .u8 120, .int .u8 121] 5)) = .ok (.slice (some ⟨w2.heap.size, 0, none⟩) 3 3) (w2.alloc (.cells #[.int .u8 1, .int .u8 120, .int .u8 121] 5 (3, 4))) := Lib.run_convert_bytes_const (P := Tryd.prog) w2 22 5 #[.int .u8 1, .int .u8 120, .int .u8 121] 3 3 Tryd.underlying22 Tryd.underlying5
  go_wp2_with fail
  have E2 : Aside0 (Fr No w2 (w2.alloc (.cells #[.int .u8 1, .int .u8 120, .int .u8 121] 5 (3, 4)))) := ⟨(Fr.refl _ _).alloc _⟩
  have h9 := add_calls (HG.out.no (F2.out.none E2.out)) (D2.out.no E2.out) 0 rfl _ [1, 120, 121] RB.out (by omega) (by simp)
  rw [add_b] at h9
  refine h9.mono ?_
  clear h9
  rintro e w3 ⟨vo, v2, rfl, hd, ho, hf, ha2⟩
  have F3 : Aside0 (Fr No w w3) := ⟨fs_new (F2.out.none E2.out) hf HS.out N2.out⟩
  have D3 := Aside0.mk hd
  obtain ⟨fs', hfo, hfm, hmine⟩ := ho.fs
  have hfl : fs'.length = 1 := by have := congrArg List.length hfm; simpa using this
  obtain ⟨f, rfl⟩ : ∃ f, fs' = [f] := List.length_eq_one_iff.1 hfl
  obtain ⟨fk, fs1, D, cD, xs⟩ := f
  have htri : (⟨fk, fs1, D, cD, xs⟩ : FV).k = 3 ∧ (⟨fk, fs1, D, cD, xs⟩ : FV).s = 2 ∧ (⟨fk, fs1, D, cD, xs⟩ : FV).xs = [120] := by simpa [tri, up] using hfm
  obtain ⟨rfl, rfl, rfl⟩ := htri
  obtain ⟨gq, cq, rfl, hgq⟩ := hfo.at_ (by simp)
  have hcs := fun i u hu => World.ownsRow.cells hfo (g := gq) rfl i u hu
  have q0 : w3.cell? ⟨gq, 0, none⟩ = some (.int .i64 3) := hcs 0 _ rfl
  have q2 : w3.cell? ⟨gq, 2, none⟩ = some (.slice D 1 cD) := hcs 2 _ rfl
  have q3 : (convert 22 9 (.slice D 1 cD)).run Tryd.prog w3 = .ok (.string (bstr [120])) w3 := str_of_rd (hmine _ (List.mem_cons_self)).own.rd
  clear hd ho hf ha2 hfo hfm hfl hb1 hmine hcs
  go_wp2_with fail
  refine (held_calls D3.out 0 rfl).mono ?_
  rintro e x1 ⟨rfl, rfl⟩
  go_wp2_with fail
  refine (read_calls D3.out 0 rfl).mono ?_
  rintro e x1 ⟨rfl, rfl⟩
  go_wp2_with fail
  refine (err_calls D3.out 0 rfl).mono ?_
  rintro e x1 ⟨ev, rfl, rfl, rfl⟩
  go_wp2
  go_ret
  exact ⟨rfl, F3.out⟩
end Go.Proofs.YtkljeafnmcmifaaDoor.Fee
