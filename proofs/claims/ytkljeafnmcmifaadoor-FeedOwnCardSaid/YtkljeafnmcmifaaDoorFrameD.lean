/- frame.Read, and the law's head 'reads'. -/
import Derived.Test.YtkljeafnmcmifaaDoorFrameR
set_option linter.unusedVariables false
set_option linter.unusedSimpArgs false
namespace Go.Proofs.YtkljeafnmcmifaaDoor.Frm
open Go.RowKit Go.Proofs.YtkljeafnmcmifaaDoorW.PrintWords Go.Proofs.YtkljeafnmcmifaaDoor.B Go.Proofs.YtkljeafnmcmifaaDoor.PB Go.Proofs.YtkljeafnmcmifaaDoor.SCode Go.Proofs.YtkljeafnmcmifaaDoor.Rdr
attribute [local go_sem] B.max2_int B.min2_int B.max_two B.min_two

/-- What Read tells: kind, stream, data, how many bytes, the error. -/
def readS (b : List UInt8) : Nat × Nat × List UInt8 × Nat × Option (Nat × Nat) :=
  match (headS b).2.2.2.2 with
  | some e => (0, 0, [], 0, some e)
  | none =>
    if b.length - (headS b).2.2.1 < (headS b).2.2.2.1 then (0, 0, [], 0, some (b.length, 30))
    else ((headS b).1, (headS b).2.1, (b.drop (headS b).2.2.1).take (headS b).2.2.2.1, (headS b).2.2.1 + (headS b).2.2.2.1, none)

theorem Rd_cut {w : World} {A : Option Addr} {c : Nat} {xs : List UInt8} (h : RdB w (.slice A xs.length c) xs) (lo n : Nat) (hl : lo + n ≤ xs.length) : RdB w (.slice (if c = lo then A else A.map (·.add lo)) (lo + n - lo) (c - lo)) ((xs.drop lo).take n) := by
  obtain ⟨A', c', he, h1, h2, h3⟩ := h
  injection he with e1 _ e3
  subst e1
  subst e3
  have hlen : ((xs.drop lo).take n).length = lo + n - lo := by simp; omega
  refine ⟨_, c - lo, by rw [hlen], by omega, by omega, fun hn => ?_⟩
  obtain ⟨ad, rfl, hc⟩ := h3 (by omega)
  rw [if_neg (by omega)]
  refine ⟨ad.add lo, rfl, fun i u hu => ?_⟩
  have hi : i < n := by
    have := (List.getElem?_eq_some_iff.1 hu).1
    rw [u8_cells] at this
    simp at this
    omega
  have := hc (lo + i) u (by
    rw [u8_cells] at hu ⊢
    rw [List.getElem?_map] at hu ⊢
    rw [List.getElem?_take, if_pos hi, List.getElem?_drop] at hu
    exact hu)
  rw [add_add]
  exact this

theorem fail_at (r : R) (a e : Nat) : (r.fail a e).at_ = r.at_ := by unfold R.fail; split <;> rfl
theorem rByte_le (b : List UInt8) (r : R) (h : r.at_ ≤ b.length) : (rByte b r).1.at_ ≤ b.length := by
  unfold rByte
  split
  · exact h
  · split
    · rename_i hl; exact hl
    · exact h
theorem rNumL_le (b : List UInt8) (from_ : Nat) : ∀ (fuel k n : Nat) (r : R), r.at_ ≤ b.length → (rNumL b from_ fuel k n r).1.at_ ≤ b.length := by
  intro fuel
  induction fuel with
  | zero => intro k n r h; exact h
  | succ fuel ih =>
    intro k n r h
    have h1 := rByte_le b r h
    unfold rNumL
    simp only []
    split
    · exact h1
    · split
      · rw [fail_at]; exact h1
      · repeat' split
        all_goals first | (rw [fail_at]; exact h1) | exact h1 | exact ih _ _ _ h1
theorem headS_le (b : List UInt8) (h : (headS b).2.2.2.2 = none) : (headS b).2.2.1 ≤ b.length := by
  unfold headS at *
  split
  · exact Nat.zero_le _
  · split
    · exact Nat.zero_le _
    · split
      · exact Nat.zero_le _
      · split
        · exact Nat.zero_le _
        · have h1 := rByte_le b ⟨0, none⟩ (Nat.zero_le _)
          unfold rNum
          split
          · exact h1
          · exact rNumL_le _ _ _ _ _ _ h1

set_option maxHeartbeats 1000000 in
set_option maxRecDepth 100000 in
theorem readF_calls (v : Value) (b : List UInt8) (w : World) (hv : RdB w v b) (hl : b.length ≤ 140737488351232) : Calls Tryd.prog 17 #[v] w fun e w' => ∃ d ev, e = .returned (.tuple #[frV ((readS b).1 : Nat) ((readS b).2.1 : Nat) d, .int .i64 ((readS b).2.2.2.1 : Nat), ev]) ∧ IsErr w' ev (readS b).2.2.2.2 ∧ Fr No w w' ∧ OwB w' d (readS b).2.2.1 ∧ (∀ k, d.ownBlock = some k → w.heap.size ≤ k) := by
  obtain ⟨res, hres⟩ : ∃ q, readS b = q := ⟨_, rfl⟩
  obtain ⟨hd, hhd⟩ : ∃ q, headS b = q := ⟨_, rfl⟩
  have hle := headS_le b
  rw [hhd] at hle
  rw [hres]
  have HR := Aside0.mk hres
  unfold readS at hres
  rw [hhd] at hres
  obtain ⟨k, s, h, n, er⟩ := hd
  obtain ⟨A, c, rfl, hbc, hcm, _⟩ := id hv
  have HV := Aside0.mk hv; have HL := Aside0.mk hl; have HD := Aside0.mk hhd; clear hv hl hhd
  have hle' : er = none → h ≤ b.length := hle
  clear hle
  go_enter Tryd.func17, Tryd.ntmps17
  go_wp2_with fail
  refine (head_calls _ b _ (HV.out.no ((Fr.refl _ _).alloc _))).mono ?_
  rw [HD.out]
  rintro e w1 ⟨ev, rfl, he, hf⟩
  have HE := Aside0.mk he
  have F1 := Aside0.mk hf; clear hf
  have hb1 : w1.heap[w.heap.size]? = some (.cells #[.int .i64 0, .int .i64 0, .slice none 0 0] 39 (0, 0)) := F1.out.heap (blk_new w _) id
  have HB1 := Aside0.mk hb1
  have E1 : Aside0 (Fr No w w1) := ⟨((Fr.refl _ _).alloc _).none F1.out⟩
  have hl : w.heap.size < w1.heap.size := blk_lt hb1
  have hc0 : w1.cell? ⟨w.heap.size, 0, none⟩ = some (.int .i64 0) := by rw [blk_cell hb1]; rfl
  have hc1 : w1.cell? ⟨w.heap.size, 1, none⟩ = some (.int .i64 0) := by rw [blk_cell hb1]; rfl
  have hc2 : w1.cell? ⟨w.heap.size, 2, none⟩ = some (.slice none 0 0) := by rw [blk_cell hb1]; rfl
  have hf0 : w1.frozen? ⟨w.heap.size, 0, none⟩ = false := blk_frozen hb1 _
  have hf1 : w1.frozen? ⟨w.heap.size, 1, none⟩ = false := blk_frozen hb1 _
  have hf2 : w1.frozen? ⟨w.heap.size, 2, none⟩ = false := blk_frozen hb1 _
  clear hb1
  rcases er with _ | q
  · obtain rfl : ev = .nilIface := he
    have hle := hle' rfl
    clear hle'
    have hw1 : wrap64 ((b.length : Int) - (h : Int)) = ((b.length - h : Nat) : Int) := by
      have := HL.out
      unfold wrap64; omega
    by_cases hn : b.length - h < n
    · simp only [if_pos hn] at hres
      subst hres
      have hnB : decide (((b.length - h : Nat) : Int) < (n : Int)) = true := by simpa using hn
      go_wp2
      have hz := put3_heap HB1.out 0 0 (.slice none 0 0)
      (try simp only [Exit.inBlock, Exit.then]); refine bodyPost_ret (results_list (rs := [.cell 2 39, .tmp 3, .tmp 4]) rfl (by simp) (.cell w.heap.size 39 #[.int .i64 0, .int .i64 0, .slice none 0 0] (0, 0) _ rfl (blk_alloc (blk_alloc hz _) _) Tryd.underlying39 rfl (by kernel_rfl) (.tmp (.tmp .nil)))) rfl ?_
      refine ⟨_, _, rfl, ⟨w1.heap.size + 1, rfl, ?_⟩, ((put3_fr E1.out (Nat.le_refl _) 0 0 _).alloc _).alloc _, Ow.nil _ _ _, fun k hk => by cases hk⟩
      have := blk_new ((put3 w1 w.heap.size 0 0 (.slice none 0 0)).alloc (.cells #[.int .i64 k, .int .i64 s, .slice none 0 0] 39)) (.cells #[.int .i64 (b.length : Nat), .int .i64 (30 : Nat)] 56 (0, 0))
      simpa [World.setCell] using this
    · simp only [if_neg hn] at hres
      subst hres
      have hnB : decide (((b.length - h : Nat) : Int) < (n : Int)) = false := by simpa using hn
      have hw2 : wrap64 ((h : Int) + (n : Int)) = ((h + n : Nat) : Int) := by
        have := HL.out
        unfold wrap64; omega
      have hhn : h + n ≤ c := by omega
      have E2 : Aside0 (Fr No w (w1.alloc (.cells #[.int .i64 k, .int .i64 s, .slice none 0 0] 39))) := ⟨E1.out.alloc _⟩
      have O0 : Aside0 (OwB ((w1.alloc (.cells #[.int .i64 k, .int .i64 s, .slice none 0 0] 39)).alloc (.cells #[] 5)) (.slice (some ⟨w1.heap.size + 1, 0, none⟩) 0 0) []) := ⟨by have := own_empty (w1.alloc (.cells #[.int .i64 k, .int .i64 s, .slice none 0 0] 39)); simpa using this⟩
      obtain ⟨A2, hA2⟩ : ∃ A2, (if c = h then A else A.map (fun x => x.add h)) = A2 := ⟨_, rfl⟩
      have RY : Aside0 (RdB ((w1.alloc (.cells #[.int .i64 k, .int .i64 s, .slice none 0 0] 39)).alloc (.cells #[] 5)) (.slice A2 (h + n - h) (c - h)) ((b.drop h).take n)) := ⟨by
        have := Rd_cut (HV.out.no (E2.out.alloc (.cells #[] 5))) h n (by omega)
        rw [hA2] at this
        exact this⟩
      go_wp2_with (at_builtin; go_loud (refine apBs (.slice (some ⟨w1.heap.size + 1, 0, none⟩) 0 0) [] (.slice A2 (h + n - h) (c - h)) ((b.drop h).take n) rfl (.tmp 34) (.tmp 40) rfl rfl rfl O0.out RY.out ?c2 ?_; (case c2 => have := HL.out; simp; omega); intro v2 w2 h1 h2 h3 h4; obtain ⟨Av, cv, rfl⟩ := h1.form; have G1 := Aside0.mk h1; have G2 := Aside0.mk h2; have G3 := Aside0.mk h3; have G4 := Aside0.mk h4; have HF2 : Aside0 (w2.heap[w1.heap.size]? = some (.cells #[.int .i64 k, .int .i64 s, .slice none 0 0] 39 (0, 0))) := ⟨h2.heap (blk_alloc (blk_new w1 _) _) (fun hb => by have h9 : w1.heap.size + 1 = w1.heap.size := Option.some.inj hb; omega)⟩; have HT2 : Aside0 (w2.heap[w.heap.size]? = some (.cells #[.int .i64 0, .int .i64 0, .slice none 0 0] 39 (0, 0))) := ⟨h2.heap (blk_alloc (blk_alloc HB1.out _) _) (fun hb => by have h9 : w1.heap.size + 1 = w.heap.size := Option.some.inj hb; omega)⟩; clear hc0 hc1 hc2 hf0 hf1 hf2; have hc0 : w2.cell? ⟨w.heap.size, 0, none⟩ = some (.int .i64 0) := (by rw [blk_cell HT2.out]; rfl); have hc1 : w2.cell? ⟨w.heap.size, 1, none⟩ = some (.int .i64 0) := (by rw [blk_cell HT2.out]; rfl); have hc2 : w2.cell? ⟨w.heap.size, 2, none⟩ = some (.slice none 0 0) := (by rw [blk_cell HT2.out]; rfl); have hf0 : w2.frozen? ⟨w.heap.size, 0, none⟩ = false := blk_frozen HT2.out _; have hf1 : w2.frozen? ⟨w.heap.size, 1, none⟩ = false := blk_frozen HT2.out _; have hf2 : w2.frozen? ⟨w.heap.size, 2, none⟩ = false := blk_frozen HT2.out _; have hg0 : w2.cell? ⟨w1.heap.size, 0, none⟩ = some (.int .i64 k) := (by rw [blk_cell HF2.out]; rfl); have hg1 : w2.cell? ⟨w1.heap.size, 1, none⟩ = some (.int .i64 s) := (by rw [blk_cell HF2.out]; rfl); have hg2 : w2.cell? ⟨w1.heap.size, 2, none⟩ = some (.slice none 0 0) := (by rw [blk_cell HF2.out]; rfl); have hk2 : w2.frozen? ⟨w1.heap.size, 2, none⟩ = false := blk_frozen HF2.out _; have hl2 : w1.heap.size < w2.heap.size := blk_lt HF2.out; have hl3 : w.heap.size < w2.heap.size := blk_lt HT2.out; clear h1 h2 h3 h4))
      obtain ⟨m, hm⟩ : ∃ m, (([] : List UInt8) ++ (b.drop h).take n).length = m := ⟨_, rfl⟩
      have hm2 : min n (b.length - h) = m := by rw [← hm]; simp
      rw [hm2]
      have G1' := G1.out; have G3' := G3.out
      rw [hm] at G1' G3'
      have HT3 : (w2.setCell ⟨w1.heap.size, 2, none⟩ (.slice Av m cv)).heap[w.heap.size]? = some (.cells #[.int .i64 0, .int .i64 0, .slice none 0 0] 39 (0, 0)) := blk_far HT2.out (p := ⟨w1.heap.size, 2, none⟩) (Nat.ne_of_lt hl) _
      have hz := put3_heap HT3 k s (.slice Av m cv)
      (try simp only [Exit.inBlock, Exit.then]); refine bodyPost_ret (results_list (rs := [.cell 2 39, .tmp 3, .tmp 4]) rfl (by simp) (.cell w.heap.size 39 #[.int .i64 k, .int .i64 s, .slice Av m cv] (0, 0) _ rfl (hz) Tryd.underlying39 rfl (by kernel_rfl) (.tmp (.tmp .nil)))) rfl ?_
      have E3 : Fr No w w2 := (E2.out.alloc _).trans G2.out (fun q hq hb => by have h9 : w1.heap.size + 1 = q := Option.some.inj hb; omega)
      refine ⟨_, _, rfl, rfl, put3_fr (E3.setCell (p := ⟨w1.heap.size, 2, none⟩) (.inr (Nat.le_of_lt hl)) _) (Nat.le_refl _) _ _ _, ?_, fun q hq => ?_⟩
      · have hfr : Fr (fun q => q = w1.heap.size ∨ q = w.heap.size) w2 (put3 (w2.setCell ⟨w1.heap.size, 2, none⟩ (.slice Av m cv)) w.heap.size k s (.slice Av m cv)) :=
          ((Fr.refl _ _).setCell (p := ⟨w1.heap.size, 2, none⟩) (.inl (.inl rfl)) _).trans (put3_fr' _ _ _ _ _) (fun q _ hq => .inr hq)
        have := G1'.fr hfr (fun q hq hb => by
          rcases G3' with h9 | ⟨q', h9, h10⟩
          · have : w1.heap.size + 1 = q := by rw [hq] at h9; exact (Option.some.inj h9).symm
            rcases hb with hb | hb <;> omega
          · have : q' = q := by rw [hq] at h9; exact (Option.some.inj h9).symm
            simp at h10
            rcases hb with hb | hb <;> omega)
        simpa using this
      · rcases G3' with h9 | ⟨q', h9, h10⟩
        · have : w1.heap.size + 1 = q := by rw [hq] at h9; exact (Option.some.inj h9).symm
          omega
        · have : q' = q := by rw [hq] at h9; exact (Option.some.inj h9).symm
          simp at h10
          omega
  · simp only [] at hres
    subst hres
    obtain ⟨fb, rfl, hfb⟩ := he
    clear hfb
    go_wp2
    have hz := put3_heap HB1.out 0 0 (.slice none 0 0)
    (try simp only [Exit.inBlock, Exit.then]); refine bodyPost_ret (results_list (rs := [.cell 2 39, .tmp 3, .tmp 4]) rfl (by simp) (.cell w.heap.size 39 #[.int .i64 0, .int .i64 0, .slice none 0 0] (0, 0) _ rfl (blk_alloc hz _) Tryd.underlying39 rfl (by kernel_rfl) (.tmp (.tmp .nil)))) rfl ?_
    exact ⟨_, _, rfl, (HE.out.fr (put3_fr' w1 w.heap.size 0 0 _) (frame_ne HB1.out)).no ((Fr.refl _ _).alloc _), (put3_fr E1.out (Nat.le_refl _) 0 0 _).alloc _, Ow.nil _ _ _, fun k hk => by cases hk⟩
end Go.Proofs.YtkljeafnmcmifaaDoor.Frm
