/- The walk of the law SumKeys. -/
import Derived.Test.YtdicjcpcohclaaaSumL
import Derived.Test.YtdicjcpcohclaaaShaM
import Derived.Test.YtdicjcpcohclaaaZr
import Derived.Test.YtdicjcpcohclaaaLd
import Derived.OpenShut
set_option linter.unusedVariables false
set_option linter.unusedSimpArgs false
namespace Go.Proofs.Ytdicjcpcohclaaa.LSumKeys
open Go.ChangeShapes Go.RowKit Go.Proofs.YtdicjcpcohclaaaW.PrintWords Go.Proofs.Ytdicjcpcohclaaa.B Go.Proofs.Ytdicjcpcohclaaa.PB Go.Proofs.Ytdicjcpcohclaaa.Sha
attribute [local go_sem] B.max2_int B.min2_int B.max_two B.min_two

theorem mac_sha (k m : List UInt8) (h : 64 < k.length) : mac k m = mac (sha k) m := by
  have e1 : Sha.keyOf k = sha k := by rw [Sha.keyOf, if_pos h]
  have e2 : Sha.keyOf (sha k) = sha k := by rw [Sha.keyOf, if_neg (by rw [sha_length]; omega)]
  unfold mac
  rw [e1, e2]
theorem mac_pad (k m : List UInt8) (z : Nat) (h : k.length + z ≤ 64) : mac k m = mac (k ++ List.replicate z 0) m := by
  have e1 : Sha.keyOf k = k := by rw [Sha.keyOf, if_neg (by omega)]
  have e2 : Sha.keyOf (k ++ List.replicate z 0) = k ++ List.replicate z 0 := by rw [Sha.keyOf, if_neg (by simp; omega)]
  have e3 : pad64 (k ++ List.replicate z 0) = pad64 k := by
    unfold pad64
    rw [List.append_assoc, List.replicate_append_replicate]
    congr 2
    simp
    omega
  unfold mac
  rw [e1, e2, e3]
theorem out1 (v vt : Value) (key text : List UInt8) (n : Int) (w : World) (hk : RdB w v key) (ht : RdB w vt text) (h : 200 < key.length ∨ 300 < text.length ∨ n < 0 ∨ 64 < n) :
    Calls Try.prog 14 #[v, vt, .int .i64 n] w fun e w' => e = .returned (.bool true) ∧ Fr No w w' := by
  obtain ⟨A, c, rfl, _⟩ := hk
  obtain ⟨At, ct, rfl, _⟩ := ht
  rcases (by omega : (200 : Int) < (key.length : Int) ∨ (¬ (200 : Int) < (key.length : Int) ∧ (300 : Int) < (text.length : Int)) ∨ (¬ (200 : Int) < (key.length : Int) ∧ ¬ (300 : Int) < (text.length : Int) ∧ n < 0) ∨ (¬ (200 : Int) < (key.length : Int) ∧ ¬ (300 : Int) < (text.length : Int) ∧ ¬ n < 0 ∧ 64 < n)) with h1 | ⟨h1, h2⟩ | ⟨h1, h2, h3⟩ | ⟨h1, h2, h3, h4⟩
  all_goals
    clear h
    go_enter Try.func14, Try.ntmps14
    go_wp2_with fail
    refine (known_calls w).mono ?_
    rintro e w1 ⟨rfl, hf⟩
    have F1 := Aside0.mk hf; clear hf
    go_wp2
    go_ret
    exact ⟨rfl, F1.out⟩
set_option maxHeartbeats 8000000 in
set_option maxRecDepth 100000 in
theorem long (v vt : Value) (key text : List UInt8) (n : Int) (w : World) (hk : RdB w v key) (ht : RdB w vt text) (h1 : key.length ≤ 200) (h2 : text.length ≤ 300) (h3 : 0 ≤ n) (h4 : n ≤ 64) (h5 : 64 < key.length) :
    Calls Try.prog 14 #[v, vt, .int .i64 n] w fun e w' => e = .returned (.bool true) ∧ Fr No w w' := by
  obtain ⟨A, c, rfl, _⟩ := id hk
  obtain ⟨At, ct, rfl, _⟩ := id ht
  have HK := Aside0.mk hk; have HT := Aside0.mk ht
  have j1 : ¬ (200 : Int) < (key.length : Int) := by omega
  have j2 : ¬ (300 : Int) < (text.length : Int) := by omega
  have j3 : ¬ n < 0 := by omega
  have j4 : ¬ 64 < n := by omega
  have j5 : (64 : Int) < (key.length : Int) := by omega
  obtain ⟨x, hx⟩ : ∃ x, mac key text = x := ⟨_, rfl⟩
  have hxl : x.length = 32 := by rw [← hx]; exact sha_length _
  have hx2 := mac_sha key text h5
  rw [hx] at hx2
  have HX := Aside0.mk hx; have HX2 := Aside0.mk hx2
  clear hk ht hx hx2
  go_enter Try.func14, Try.ntmps14
  go_wp2_with fail
  refine (known_calls w).mono ?_
  rintro e w1 ⟨rfl, hf⟩
  have F1 := Aside0.mk hf; clear hf
  go_wp2_with fail
  refine (of_calls _ [key] _ (rdV_one' _ _ rfl A _ c key (HK.out.no F1.out) _) (by simp; omega)).mono ?_
  rintro e w2 ⟨rfl, hf2⟩
  have F2 : Aside0 (Fr No w w2) := ⟨F1.out.none (((Fr.refl _ _).alloc _).none hf2)⟩
  have ek : [key].flatten = key := by simp
  rw [ek]
  clear hf2 ek
  obtain ⟨s, hs⟩ : ∃ s, sha key = s := ⟨_, rfl⟩
  have hsl : s.length = 32 := by rw [← hs]; exact sha_length _
  have HX3 := HX2.out
  rw [hs] at HX3 ⊢
  have HX4 := Aside0.mk HX3
  have HSL := Aside0.mk hsl
  have S3 : Aside0 (Bd (w2.alloc (.cells (s.map vu8).toArray 34)) w2.heap.size 34 s) := ⟨bd_new w2 _ _ rfl _⟩
  have F3 : Aside0 (Fr No w (w2.alloc (.cells (s.map vu8).toArray 34))) := ⟨F2.out.alloc _⟩
  clear hs hsl HX2 HX3
  go_wp2_with (refine PB.stRow (.tmp 7) (.tmp 32) 34 w2.heap.size 34 _ (s.map vu8).toArray rfl rfl rfl rfl (heap_alloc_new w2 _) (by rw [show (s.map vu8).toArray.size = 32 by simp [HSL.out]]; kernel_rfl) (by simp [HSL.out]) (by rw [Array.all_eq_true]; intro i hi; simp [Value.oneCell']) ?_; rw [World.setRow_alloc_new])
  generalize w2.alloc (.cells (s.map vu8).toArray 34) = w3 at S3 F3 ⊢
  generalize w2.heap.size = g3 at S3 ⊢
  have RS : ∀ x, Fr No w3 x → RdB x (.slice (some ⟨g3, 0, Option.none⟩) 32 32) s := fun x hx => by
    have h := (S3.out.no hx).rd 0 32 32 (by rw [HSL.out]; omega) (by omega) (by simp [maxLen])
    rw [List.drop_zero, List.take_of_length_le (by rw [HSL.out]; omega)] at h
    exact h
  have RK : ∀ x, Fr No w3 x → RdB x (.slice A key.length c) key := fun x hx => HK.out.no (F3.out.none hx)
  have RT : ∀ x, Fr No w3 x → RdB x (.slice At text.length ct) text := fun x hx => HT.out.no (F3.out.none hx)
  have MK : ∀ x y, Fr No w3 x → RdV x y [text] → Calls Try.prog 39 #[.slice A key.length c, y] x fun e w' => e = .returned (Arr.av (mac key text)) ∧ Fr No x w' := fun x y hx hy => by
    have h := mac_calls (.slice A key.length c) y key [text] x (RK x hx) hy (by omega) (by simp; omega) (by simp)
    simpa using h
  have MS : ∀ x y, Fr No w3 x → RdV x y [text] → Calls Try.prog 39 #[.slice (some ⟨g3, 0, Option.none⟩) 32 32, y] x fun e w' => e = .returned (Arr.av (mac s text)) ∧ Fr No x w' := fun x y hx hy => by
    have h := mac_calls (.slice (some ⟨g3, 0, Option.none⟩) 32 32) y s [text] x (RS x hx) hy (by rw [HSL.out]; omega) (by simp; omega) (by simp)
    simpa using h
  rw [HX.out] at MK
  rw [← HX4.out] at MS
  have qe := fun W => Arr.run_eql Try.underlying34 W x x hxl hxl
  unfold Arr.av at qe MK MS
  have qg := fun y z W => run_eqGuard_agg (P := Try.prog) W .eql 34 y z (x.map vu8).toArray (x.map vu8).toArray (by kernel_rfl)
  have HM := Aside0.mk (And.intro MK MS)
  have HE := Aside0.mk (And.intro RT (And.intro RK RS))
  clear RS RK RT MK MS
  go_wp2_with fail
  refine Rg.start (fun _ x => Fr No w3 x) (by kernel_rfl) (by kernel_rfl) [2, 3, 6, 7] [[1, 2], [1, 2, 0, 3], [5, 6], [1, 2, 0, 3, 5, 6, 4, 7]] (by kernel_rfl) (.q 0 1 (.q 1 0 (.q 4 3 (.q 5 2 (.two 2 1 (.two 3 2 (.e 6 3 (.e 7 4 (.q 8 4 (.q 9 4 (.done))))) 6 1 (.e 3 3 (.e 7 4 (.q 8 4 (.q 9 4 (.done)))))) 6 0 (.e 2 1 (.e 3 3 (.e 7 4 (.q 8 4 (.q 9 4 (.done))))))))))) (by kernel_rfl) ?_ ?_
  · exact fun _ => (Fr.refl _ _).drew
  repeat (first
    | (refine Rg.q (o := ?_) (v := ?_) ?_ ?_ ?_ ?_ ?_
       rotate_left 2
       · (simp only [List.getElem?_toArray, List.getElem?_cons_succ, List.getElem?_cons_zero]; rfl)
       · exact fun _ _ _ h => h
       · first | rfl | (go_simp; done)
       · (intro x_ hx; (try dsimp only at hx); (clear hx); go_simp; (try rw [if_neg (by omega)]); (try rw [if_pos (by omega)]); (try go_simp); try with_reducible rfl)
       try simp only [Act.put, List.setIfInBounds_toArray, List.set_cons_zero, List.set_cons_succ])
    | (refine Rg.skip (o := ?_) ?_ ?_ ?_ ?_
       rotate_left 1
       · (simp only [List.getElem?_toArray, List.getElem?_cons_succ, List.getElem?_cons_zero]; rfl)
       · exact fun _ _ _ h => h
       · first | rfl | (go_simp; done)
       try simp only [Act.put, List.setIfInBounds_toArray, List.set_cons_zero, List.set_cons_succ]))
  refine Rg.two ?_ ?_
  · refine Rg.e (o := ?_) ?_ ?_
    rotate_left 1
    · (simp only [List.getElem?_toArray, List.getElem?_cons_succ, List.getElem?_cons_zero]; rfl)
    intro K hK
    go_simp
    have F4 : Aside0 (Fr No w3 (w3.alloc (.cells #[.slice At text.length ct] 23)).drew) := ⟨((Fr.refl _ _).alloc _).drew⟩
    have V4 : Aside0 (RdV (w3.alloc (.cells #[.slice At text.length ct] 23)).drew (.slice (some ⟨w3.heap.size, 0, Option.none⟩) 1 1) [text]) := ⟨(rdV_one' w3 _ rfl At text.length ct text (HE.out.1 _ (Fr.refl _ _)) _).no ((Fr.refl _ _).drew)⟩
    refine hK.out _ _ (fun _ x => Fr No w3 x) (fun k x hk h => h) ?_ ?_
    · exact fun _ _ => F4.out
    try simp only [Act.put, List.setIfInBounds_toArray, List.set_cons_zero, List.set_cons_succ]
    repeat (first
      | (refine Rg.q (o := ?_) (v := ?_) ?_ ?_ ?_ ?_ ?_
         rotate_left 2
         · (simp only [List.getElem?_toArray, List.getElem?_cons_succ, List.getElem?_cons_zero]; rfl)
         · exact fun _ _ _ h => h
         · first | rfl | (go_simp; done)
         · (intro x_ hx; (try dsimp only at hx); (clear hx); go_simp; (try rw [if_neg (by omega)]); (try rw [if_pos (by omega)]); (try go_simp); try with_reducible rfl)
         try simp only [Act.put, List.setIfInBounds_toArray, List.set_cons_zero, List.set_cons_succ])
      | (refine Rg.skip (o := ?_) ?_ ?_ ?_ ?_
         rotate_left 1
         · (simp only [List.getElem?_toArray, List.getElem?_cons_succ, List.getElem?_cons_zero]; rfl)
         · exact fun _ _ _ h => h
         · first | rfl | (go_simp; done)
         try simp only [Act.put, List.setIfInBounds_toArray, List.set_cons_zero, List.set_cons_succ]))
    refine Rg.two ?_ ?_
    · refine Rg.e (o := ?_) ?_ ?_
      rotate_left 1
      · (simp only [List.getElem?_toArray, List.getElem?_cons_succ, List.getElem?_cons_zero]; rfl)
      intro K hK
      go_simp
      refine (HM.out.1 _ _ F4.out V4.out).mono ?_
      rintro e w5 ⟨rfl, hf⟩
      have F5 : Aside0 (Fr No w3 w5) := ⟨F4.out.none hf⟩
      clear hf
      go_simp
      refine hK.out _ _ (fun _ x => Fr No w3 x) (fun k x hk h => h) ?_ ?_
      · exact fun _ _ => F5.out
      try simp only [Act.put, List.setIfInBounds_toArray, List.set_cons_zero, List.set_cons_succ]
      repeat (first
        | (refine Rg.q (o := ?_) (v := ?_) ?_ ?_ ?_ ?_ ?_
           rotate_left 2
           · (simp only [List.getElem?_toArray, List.getElem?_cons_succ, List.getElem?_cons_zero]; rfl)
           · exact fun _ _ _ h => h
           · first | rfl | (go_simp; done)
           · (intro x_ hx; (try dsimp only at hx); (clear hx); go_simp; (try rw [if_neg (by omega)]); (try rw [if_pos (by omega)]); (try go_simp); try with_reducible rfl)
           try simp only [Act.put, List.setIfInBounds_toArray, List.set_cons_zero, List.set_cons_succ])
        | (refine Rg.skip (o := ?_) ?_ ?_ ?_ ?_
           rotate_left 1
           · (simp only [List.getElem?_toArray, List.getElem?_cons_succ, List.getElem?_cons_zero]; rfl)
           · exact fun _ _ _ h => h
           · first | rfl | (go_simp; done)
           try simp only [Act.put, List.setIfInBounds_toArray, List.set_cons_zero, List.set_cons_succ]))
      refine Rg.e (o := ?_) ?_ ?_
      rotate_left 1
      · (simp only [List.getElem?_toArray, List.getElem?_cons_succ, List.getElem?_cons_zero]; rfl)
      intro K hK
      go_simp
      have F6 : Aside0 (Fr No w3 (w5.alloc (.cells #[.slice At text.length ct] 23))) := ⟨F5.out.alloc _⟩
      have V6 : Aside0 (RdV (w5.alloc (.cells #[.slice At text.length ct] 23)) (.slice (some ⟨w5.heap.size, 0, Option.none⟩) 1 1) [text]) := ⟨rdV_one' w5 _ rfl At text.length ct text (HE.out.1 _ F5.out) _⟩
      refine hK.out _ _ (fun _ x => Fr No w3 x) (fun k x hk h => h) ?_ ?_
      · exact fun _ _ => F6.out
      try simp only [Act.put, List.setIfInBounds_toArray, List.set_cons_zero, List.set_cons_succ]
      repeat (first
        | (refine Rg.q (o := ?_) (v := ?_) ?_ ?_ ?_ ?_ ?_
           rotate_left 2
           · (simp only [List.getElem?_toArray, List.getElem?_cons_succ, List.getElem?_cons_zero]; rfl)
           · exact fun _ _ _ h => h
           · first | rfl | (go_simp; done)
           · (intro x_ hx; (try dsimp only at hx); (clear hx); go_simp; (try rw [if_neg (by omega)]); (try rw [if_pos (by omega)]); (try go_simp); try with_reducible rfl)
           try simp only [Act.put, List.setIfInBounds_toArray, List.set_cons_zero, List.set_cons_succ])
        | (refine Rg.skip (o := ?_) ?_ ?_ ?_ ?_
           rotate_left 1
           · (simp only [List.getElem?_toArray, List.getElem?_cons_succ, List.getElem?_cons_zero]; rfl)
           · exact fun _ _ _ h => h
           · first | rfl | (go_simp; done)
           try simp only [Act.put, List.setIfInBounds_toArray, List.set_cons_zero, List.set_cons_succ]))
      refine Rg.e (o := ?_) ?_ ?_
      rotate_left 1
      · (simp only [List.getElem?_toArray, List.getElem?_cons_succ, List.getElem?_cons_zero]; rfl)
      intro K hK
      go_simp
      refine (HM.out.2 _ _ F6.out V6.out).mono ?_
      rintro e w9 ⟨rfl, hf⟩
      have F9 : Aside0 (Fr No w3 w9) := ⟨F6.out.none hf⟩
      clear hf
      go_simp
      refine hK.out _ _ (fun _ x => Fr No w3 x) (fun k x hk h => h) ?_ ?_
      · exact fun _ _ => F9.out
      try simp only [Act.put, List.setIfInBounds_toArray, List.set_cons_zero, List.set_cons_succ]
      repeat (first
        | (refine Rg.q (o := ?_) (v := ?_) ?_ ?_ ?_ ?_ ?_
           rotate_left 2
           · (simp only [List.getElem?_toArray, List.getElem?_cons_succ, List.getElem?_cons_zero]; rfl)
           · exact fun _ _ _ h => h
           · first | rfl | (go_simp; done)
           · (intro x_ hx; (try dsimp only at hx); (clear hx); go_simp; (try rw [if_neg (by omega)]); (try rw [if_pos (by omega)]); (try go_simp); try with_reducible rfl)
           try simp only [Act.put, List.setIfInBounds_toArray, List.set_cons_zero, List.set_cons_succ])
        | (refine Rg.skip (o := ?_) ?_ ?_ ?_ ?_
           rotate_left 1
           · (simp only [List.getElem?_toArray, List.getElem?_cons_succ, List.getElem?_cons_zero]; rfl)
           · exact fun _ _ _ h => h
           · first | rfl | (go_simp; done)
           try simp only [Act.put, List.setIfInBounds_toArray, List.set_cons_zero, List.set_cons_succ]))
      refine Rg.done ?_
      go_simp
      go_wp2
      go_ret
      exact ⟨rfl, F3.out.none F9.out⟩
    · refine Rg.e (o := ?_) ?_ ?_
      rotate_left 1
      · (simp only [List.getElem?_toArray, List.getElem?_cons_succ, List.getElem?_cons_zero]; rfl)
      intro K hK
      go_simp
      have F5 : Aside0 (Fr No w3 ((w3.alloc (.cells #[.slice At text.length ct] 23)).alloc (.cells #[.slice At text.length ct] 23)).drew) := ⟨(((Fr.refl _ _).alloc _).alloc _).drew⟩
      have V5 : Aside0 (RdV ((w3.alloc (.cells #[.slice At text.length ct] 23)).alloc (.cells #[.slice At text.length ct] 23)).drew (.slice (some ⟨w3.heap.size + 1, 0, Option.none⟩) 1 1) [text]) := ⟨(rdV_one' (w3.alloc (.cells #[.slice At text.length ct] 23)) _ (by simp) At text.length ct text (HE.out.1 _ ((Fr.refl _ _).alloc _)) _).no ((Fr.refl _ _).drew)⟩
      have V4b : Aside0 (RdV ((w3.alloc (.cells #[.slice At text.length ct] 23)).alloc (.cells #[.slice At text.length ct] 23)).drew (.slice (some ⟨w3.heap.size, 0, Option.none⟩) 1 1) [text]) := ⟨((rdV_one' w3 _ rfl At text.length ct text (HE.out.1 _ (Fr.refl _ _)) _).no ((Fr.refl _ _).alloc _)).no ((Fr.refl _ _).drew)⟩
      refine hK.out _ _ (fun _ x => Fr No w3 x) (fun k x hk h => h) ?_ ?_
      · exact fun _ _ => F5.out
      try simp only [Act.put, List.setIfInBounds_toArray, List.set_cons_zero, List.set_cons_succ]
      repeat (first
        | (refine Rg.q (o := ?_) (v := ?_) ?_ ?_ ?_ ?_ ?_
           rotate_left 2
           · (simp only [List.getElem?_toArray, List.getElem?_cons_succ, List.getElem?_cons_zero]; rfl)
           · exact fun _ _ _ h => h
           · first | rfl | (go_simp; done)
           · (intro x_ hx; (try dsimp only at hx); (clear hx); go_simp; (try rw [if_neg (by omega)]); (try rw [if_pos (by omega)]); (try go_simp); try with_reducible rfl)
           try simp only [Act.put, List.setIfInBounds_toArray, List.set_cons_zero, List.set_cons_succ])
        | (refine Rg.skip (o := ?_) ?_ ?_ ?_ ?_
           rotate_left 1
           · (simp only [List.getElem?_toArray, List.getElem?_cons_succ, List.getElem?_cons_zero]; rfl)
           · exact fun _ _ _ h => h
           · first | rfl | (go_simp; done)
           try simp only [Act.put, List.setIfInBounds_toArray, List.set_cons_zero, List.set_cons_succ]))
      refine Rg.e (o := ?_) ?_ ?_
      rotate_left 1
      · (simp only [List.getElem?_toArray, List.getElem?_cons_succ, List.getElem?_cons_zero]; rfl)
      intro K hK
      go_simp
      refine (HM.out.1 _ _ F5.out V4b.out).mono ?_
      rintro e w7 ⟨rfl, hf⟩
      have hf7 := Aside0.mk hf
      have F7 : Aside0 (Fr No w3 w7) := ⟨F5.out.none hf⟩
      clear hf
      go_simp
      refine hK.out _ _ (fun _ x => Fr No w3 x) (fun k x hk h => h) ?_ ?_
      · exact fun _ _ => F7.out
      try simp only [Act.put, List.setIfInBounds_toArray, List.set_cons_zero, List.set_cons_succ]
      repeat (first
        | (refine Rg.q (o := ?_) (v := ?_) ?_ ?_ ?_ ?_ ?_
           rotate_left 2
           · (simp only [List.getElem?_toArray, List.getElem?_cons_succ, List.getElem?_cons_zero]; rfl)
           · exact fun _ _ _ h => h
           · first | rfl | (go_simp; done)
           · (intro x_ hx; (try dsimp only at hx); (clear hx); go_simp; (try rw [if_neg (by omega)]); (try rw [if_pos (by omega)]); (try go_simp); try with_reducible rfl)
           try simp only [Act.put, List.setIfInBounds_toArray, List.set_cons_zero, List.set_cons_succ])
        | (refine Rg.skip (o := ?_) ?_ ?_ ?_ ?_
           rotate_left 1
           · (simp only [List.getElem?_toArray, List.getElem?_cons_succ, List.getElem?_cons_zero]; rfl)
           · exact fun _ _ _ h => h
           · first | rfl | (go_simp; done)
           try simp only [Act.put, List.setIfInBounds_toArray, List.set_cons_zero, List.set_cons_succ]))
      refine Rg.e (o := ?_) ?_ ?_
      rotate_left 1
      · (simp only [List.getElem?_toArray, List.getElem?_cons_succ, List.getElem?_cons_zero]; rfl)
      intro K hK
      go_simp
      refine (HM.out.2 _ _ F7.out (V5.out.no hf7.out)).mono ?_
      rintro e w9 ⟨rfl, hf⟩
      have F9 : Aside0 (Fr No w3 w9) := ⟨F7.out.none hf⟩
      clear hf
      go_simp
      refine hK.out _ _ (fun _ x => Fr No w3 x) (fun k x hk h => h) ?_ ?_
      · exact fun _ _ => F9.out
      try simp only [Act.put, List.setIfInBounds_toArray, List.set_cons_zero, List.set_cons_succ]
      repeat (first
        | (refine Rg.q (o := ?_) (v := ?_) ?_ ?_ ?_ ?_ ?_
           rotate_left 2
           · (simp only [List.getElem?_toArray, List.getElem?_cons_succ, List.getElem?_cons_zero]; rfl)
           · exact fun _ _ _ h => h
           · first | rfl | (go_simp; done)
           · (intro x_ hx; (try dsimp only at hx); (clear hx); go_simp; (try rw [if_neg (by omega)]); (try rw [if_pos (by omega)]); (try go_simp); try with_reducible rfl)
           try simp only [Act.put, List.setIfInBounds_toArray, List.set_cons_zero, List.set_cons_succ])
        | (refine Rg.skip (o := ?_) ?_ ?_ ?_ ?_
           rotate_left 1
           · (simp only [List.getElem?_toArray, List.getElem?_cons_succ, List.getElem?_cons_zero]; rfl)
           · exact fun _ _ _ h => h
           · first | rfl | (go_simp; done)
           try simp only [Act.put, List.setIfInBounds_toArray, List.set_cons_zero, List.set_cons_succ]))
      refine Rg.done ?_
      go_simp
      go_wp2
      go_ret
      exact ⟨rfl, F3.out.none F9.out⟩
  · refine Rg.e (o := ?_) ?_ ?_
    rotate_left 1
    · (simp only [List.getElem?_toArray, List.getElem?_cons_succ, List.getElem?_cons_zero]; rfl)
    intro K hK
    go_simp
    have F4 : Aside0 (Fr No w3 (w3.alloc (.cells #[.slice At text.length ct] 23)).drew) := ⟨((Fr.refl _ _).alloc _).drew⟩
    have V4 : Aside0 (RdV (w3.alloc (.cells #[.slice At text.length ct] 23)).drew (.slice (some ⟨w3.heap.size, 0, Option.none⟩) 1 1) [text]) := ⟨(rdV_one' w3 _ rfl At text.length ct text (HE.out.1 _ (Fr.refl _ _)) _).no ((Fr.refl _ _).drew)⟩
    refine hK.out _ _ (fun _ x => Fr No w3 x) (fun k x hk h => h) ?_ ?_
    · exact fun _ _ => F4.out
    try simp only [Act.put, List.setIfInBounds_toArray, List.set_cons_zero, List.set_cons_succ]
    repeat (first
      | (refine Rg.q (o := ?_) (v := ?_) ?_ ?_ ?_ ?_ ?_
         rotate_left 2
         · (simp only [List.getElem?_toArray, List.getElem?_cons_succ, List.getElem?_cons_zero]; rfl)
         · exact fun _ _ _ h => h
         · first | rfl | (go_simp; done)
         · (intro x_ hx; (try dsimp only at hx); (clear hx); go_simp; (try rw [if_neg (by omega)]); (try rw [if_pos (by omega)]); (try go_simp); try with_reducible rfl)
         try simp only [Act.put, List.setIfInBounds_toArray, List.set_cons_zero, List.set_cons_succ])
      | (refine Rg.skip (o := ?_) ?_ ?_ ?_ ?_
         rotate_left 1
         · (simp only [List.getElem?_toArray, List.getElem?_cons_succ, List.getElem?_cons_zero]; rfl)
         · exact fun _ _ _ h => h
         · first | rfl | (go_simp; done)
         try simp only [Act.put, List.setIfInBounds_toArray, List.set_cons_zero, List.set_cons_succ]))
    refine Rg.e (o := ?_) ?_ ?_
    rotate_left 1
    · (simp only [List.getElem?_toArray, List.getElem?_cons_succ, List.getElem?_cons_zero]; rfl)
    intro K hK
    go_simp
    have F5 : Aside0 (Fr No w3 ((w3.alloc (.cells #[.slice At text.length ct] 23)).alloc (.cells #[.slice At text.length ct] 23)).drew) := ⟨(((Fr.refl _ _).alloc _).alloc _).drew⟩
    have V5 : Aside0 (RdV ((w3.alloc (.cells #[.slice At text.length ct] 23)).alloc (.cells #[.slice At text.length ct] 23)).drew (.slice (some ⟨w3.heap.size + 1, 0, Option.none⟩) 1 1) [text]) := ⟨(rdV_one' (w3.alloc (.cells #[.slice At text.length ct] 23)) _ (by simp) At text.length ct text (HE.out.1 _ ((Fr.refl _ _).alloc _)) _).no ((Fr.refl _ _).drew)⟩
    have V4b : Aside0 (RdV ((w3.alloc (.cells #[.slice At text.length ct] 23)).alloc (.cells #[.slice At text.length ct] 23)).drew (.slice (some ⟨w3.heap.size, 0, Option.none⟩) 1 1) [text]) := ⟨((rdV_one' w3 _ rfl At text.length ct text (HE.out.1 _ (Fr.refl _ _)) _).no ((Fr.refl _ _).alloc _)).no ((Fr.refl _ _).drew)⟩
    refine hK.out _ _ (fun _ x => Fr No w3 x) (fun k x hk h => h) ?_ ?_
    · exact fun _ _ => F5.out
    try simp only [Act.put, List.setIfInBounds_toArray, List.set_cons_zero, List.set_cons_succ]
    repeat (first
      | (refine Rg.q (o := ?_) (v := ?_) ?_ ?_ ?_ ?_ ?_
         rotate_left 2
         · (simp only [List.getElem?_toArray, List.getElem?_cons_succ, List.getElem?_cons_zero]; rfl)
         · exact fun _ _ _ h => h
         · first | rfl | (go_simp; done)
         · (intro x_ hx; (try dsimp only at hx); (clear hx); go_simp; (try rw [if_neg (by omega)]); (try rw [if_pos (by omega)]); (try go_simp); try with_reducible rfl)
         try simp only [Act.put, List.setIfInBounds_toArray, List.set_cons_zero, List.set_cons_succ])
      | (refine Rg.skip (o := ?_) ?_ ?_ ?_ ?_
         rotate_left 1
         · (simp only [List.getElem?_toArray, List.getElem?_cons_succ, List.getElem?_cons_zero]; rfl)
         · exact fun _ _ _ h => h
         · first | rfl | (go_simp; done)
         try simp only [Act.put, List.setIfInBounds_toArray, List.set_cons_zero, List.set_cons_succ]))
    refine Rg.e (o := ?_) ?_ ?_
    rotate_left 1
    · (simp only [List.getElem?_toArray, List.getElem?_cons_succ, List.getElem?_cons_zero]; rfl)
    intro K hK
    go_simp
    refine (HM.out.1 _ _ F5.out V5.out).mono ?_
    rintro e w7 ⟨rfl, hf⟩
    have hf7 := Aside0.mk hf
    have F7 : Aside0 (Fr No w3 w7) := ⟨F5.out.none hf⟩
    clear hf
    go_simp
    refine hK.out _ _ (fun _ x => Fr No w3 x) (fun k x hk h => h) ?_ ?_
    · exact fun _ _ => F7.out
    try simp only [Act.put, List.setIfInBounds_toArray, List.set_cons_zero, List.set_cons_succ]
    repeat (first
      | (refine Rg.q (o := ?_) (v := ?_) ?_ ?_ ?_ ?_ ?_
         rotate_left 2
         · (simp only [List.getElem?_toArray, List.getElem?_cons_succ, List.getElem?_cons_zero]; rfl)
         · exact fun _ _ _ h => h
         · first | rfl | (go_simp; done)
         · (intro x_ hx; (try dsimp only at hx); (clear hx); go_simp; (try rw [if_neg (by omega)]); (try rw [if_pos (by omega)]); (try go_simp); try with_reducible rfl)
         try simp only [Act.put, List.setIfInBounds_toArray, List.set_cons_zero, List.set_cons_succ])
      | (refine Rg.skip (o := ?_) ?_ ?_ ?_ ?_
         rotate_left 1
         · (simp only [List.getElem?_toArray, List.getElem?_cons_succ, List.getElem?_cons_zero]; rfl)
         · exact fun _ _ _ h => h
         · first | rfl | (go_simp; done)
         try simp only [Act.put, List.setIfInBounds_toArray, List.set_cons_zero, List.set_cons_succ]))
    refine Rg.e (o := ?_) ?_ ?_
    rotate_left 1
    · (simp only [List.getElem?_toArray, List.getElem?_cons_succ, List.getElem?_cons_zero]; rfl)
    intro K hK
    go_simp
    refine (HM.out.2 _ _ F7.out (V4b.out.no hf7.out)).mono ?_
    rintro e w9 ⟨rfl, hf⟩
    have F9 : Aside0 (Fr No w3 w9) := ⟨F7.out.none hf⟩
    clear hf
    go_simp
    refine hK.out _ _ (fun _ x => Fr No w3 x) (fun k x hk h => h) ?_ ?_
    · exact fun _ _ => F9.out
    try simp only [Act.put, List.setIfInBounds_toArray, List.set_cons_zero, List.set_cons_succ]
    repeat (first
      | (refine Rg.q (o := ?_) (v := ?_) ?_ ?_ ?_ ?_ ?_
         rotate_left 2
         · (simp only [List.getElem?_toArray, List.getElem?_cons_succ, List.getElem?_cons_zero]; rfl)
         · exact fun _ _ _ h => h
         · first | rfl | (go_simp; done)
         · (intro x_ hx; (try dsimp only at hx); (clear hx); go_simp; (try rw [if_neg (by omega)]); (try rw [if_pos (by omega)]); (try go_simp); try with_reducible rfl)
         try simp only [Act.put, List.setIfInBounds_toArray, List.set_cons_zero, List.set_cons_succ])
      | (refine Rg.skip (o := ?_) ?_ ?_ ?_ ?_
         rotate_left 1
         · (simp only [List.getElem?_toArray, List.getElem?_cons_succ, List.getElem?_cons_zero]; rfl)
         · exact fun _ _ _ h => h
         · first | rfl | (go_simp; done)
         try simp only [Act.put, List.setIfInBounds_toArray, List.set_cons_zero, List.set_cons_succ]))
    refine Rg.done ?_
    go_simp
    go_wp2
    go_ret
    exact ⟨rfl, F3.out.none F9.out⟩
set_option maxHeartbeats 8000000 in
set_option maxRecDepth 100000 in
theorem short (v vt : Value) (key text : List UInt8) (n : Int) (w : World) (hk : RdB w v key) (ht : RdB w vt text) (h1 : key.length ≤ 200) (h2 : text.length ≤ 300) (h3 : 0 ≤ n) (h4 : n ≤ 64) (h5 : key.length ≤ 64) :
    Calls Try.prog 14 #[v, vt, .int .i64 n] w fun e w' => e = .returned (.bool true) ∧ Fr No w w' := by
  obtain ⟨A, c, rfl, _⟩ := id hk
  obtain ⟨At, ct, rfl, _⟩ := id ht
  have HK := Aside0.mk hk; have HT := Aside0.mk ht
  have j1 : ¬ (200 : Int) < (key.length : Int) := by omega
  have j2 : ¬ (300 : Int) < (text.length : Int) := by omega
  have j3 : ¬ n < 0 := by omega
  have j4 : ¬ 64 < n := by omega
  have j5 : ¬ (64 : Int) < (key.length : Int) := by omega
  obtain ⟨z, hz⟩ : ∃ z : Nat, (if 64 - (key.length : Int) < n then 64 - (key.length : Int) else n) = (z : Int) := by
    split
    · exact ⟨64 - key.length, by omega⟩
    · exact ⟨n.toNat, by omega⟩
  have hzl : key.length + z ≤ 64 := by
    split at hz <;> omega
  obtain ⟨x, hx⟩ : ∃ x, mac key text = x := ⟨_, rfl⟩
  have hxl : x.length = 32 := by rw [← hx]; exact sha_length _
  have hx2 := mac_pad key text z hzl
  rw [hx] at hx2
  have HX := Aside0.mk hx; have HX2 := Aside0.mk hx2
  have hw : IntKind.i64.wrap (64 - (key.length : Int)) = 64 - (key.length : Int) := by rw [IntKind.wrap_i64]; omega
  clear hk ht hx hx2
  go_enter Try.func14, Try.ntmps14
  go_wp2_with fail
  refine (known_calls w).mono ?_
  rintro e w1 ⟨rfl, hf⟩
  have F1 := Aside0.mk hf; clear hf
  have hA : Fr No w1 (w1.alloc (.cells #[] 5)) := (Fr.refl _ _).alloc _
  go_wp2_with (first
    | (at_builtin; refine apBs (.slice (some ⟨w1.heap.size, 0, none⟩) 0 0) [] (.slice A key.length c) key rfl (.tmp 42) (.tmp 43) rfl rfl rfl (own_empty w1) (HK.out.no (F1.out.none hA)) (by simp; omega) ?_; intro v2 w2 h1 h2 h3 h4; rw [List.nil_append] at h1; have O2 := Aside0.mk h1; have G2 := Aside0.mk h2; have A2 := Aside0.mk h3; clear h1 h2 h3 h4)
    | (at_builtin; refine apMk v2 key z rfl (.tmp 44) (.tmp 49) rfl rfl (by go_simp) O2.out (by omega) ?_; intro v3 w3 h1 h2 h3; have O3 := Aside0.mk h1; have G3 := Aside0.mk h2; have A3 := Aside0.mk h3; clear h1 h2 h3))
  have hs1 : (w1.alloc (.cells #[] 5)).heap.size = w1.heap.size + 1 := by simp
  have nb : ∀ q, q < w1.heap.size → blk (.slice (some ⟨w1.heap.size, 0, none⟩) 0 0) q → False := fun q hq hb => by have h9 : w1.heap.size = q := Option.some.inj hb; omega
  have g2 : Fr No w1 w2 := hA.trans G2.out (fun q hq hb => nb q hq hb)
  have g3 : Fr No w1 w3 := g2.trans G3.out (fun q hq hb => nb q hq (A2.out.back hb (Nat.lt_of_lt_of_le hq hA.size)))
  have FZ : Aside0 (Fr No w1 (w3.alloc (.cells #[.slice At text.length ct] 23))) := ⟨g3.alloc _⟩
  have RV := rdV_one' w3 _ rfl At text.length ct text (HT.out.no (F1.out.none g3)) 23
  have F3 := Aside0.mk g3
  have M1 := mac_calls (.slice A key.length c) _ key [text] _ (HK.out.no (F1.out.none FZ.out)) RV (by omega) (by simp; omega) (by simp)
  rw [show [text].flatten = text by simp, HX.out] at M1
  refine M1.mono ?_
  rintro e w4 ⟨rfl, hf4⟩
  have F4 : Aside0 (Fr No w3 w4) := ⟨((Fr.refl _ _).alloc _).none hf4⟩
  have R4 : RdB (w4.alloc (.cells #[.slice At text.length ct] 23)) v3 (key ++ List.replicate z 0) := O3.out.rd.no (F4.out.alloc _)
  have RV2 := rdV_one' w4 _ rfl At text.length ct text (HT.out.no (F1.out.none (F3.out.none F4.out))) 23
  have M2 := mac_calls v3 _ (key ++ List.replicate z 0) [text] _ R4 RV2 (by simp; omega) (by simp; omega) (by simp)
  rw [show [text].flatten = text by simp, ← HX2.out] at M2
  have HM2 := Aside0.mk M2
  clear hA hs1 nb g2 g3 RV M1 hf4 R4 RV2 M2
  go_wp2_with fail
  refine HM2.out.mono ?_
  rintro e w5 ⟨rfl, hf5⟩
  have F5 : Aside0 (Fr No w3 w5) := ⟨(F4.out.alloc _).none hf5⟩
  clear hf5
  have qe := fun W => Arr.run_eql Try.underlying34 W x x hxl hxl
  unfold Arr.av at qe ⊢
  have qg := fun y z W => run_eqGuard_agg (P := Try.prog) W .eql 34 y z (x.map vu8).toArray (x.map vu8).toArray (by kernel_rfl)
  go_wp2
  go_ret
  exact ⟨rfl, F1.out.none (F3.out.none F5.out)⟩
theorem walk (v : Value) (key : List UInt8) (vt : Value) (text : List UInt8) (n : Int) (w : World) (hk : RdB w v key ∧ key.length ≤ reach) (ht : RdB w vt text ∧ text.length ≤ reach) (hn : (Lit.int .i64 n).wf = true) :
    Calls Try.prog 14 #[v, vt, .int .i64 n] w fun e w' => e = .returned (.bool true) ∧ Fr No w w' := by
  by_cases h : 200 < key.length ∨ 300 < text.length ∨ n < 0 ∨ 64 < n
  · exact out1 v vt key text n w hk.1 ht.1 h
  · by_cases h5 : 64 < key.length
    · exact long v vt key text n w hk.1 ht.1 (by omega) (by omega) (by omega) (by omega) h5
    · exact short v vt key text n w hk.1 ht.1 (by omega) (by omega) (by omega) (by omega) (by omega)
end Go.Proofs.Ytdicjcpcohclaaa.LSumKeys
