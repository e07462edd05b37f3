/- The walk of the law CodeLong. -/
import Derived.Test.YtdicjcpcohclaaaDoorErrW
import Derived.Test.YtdicjcpcohclaaaDoorCodeP
import Derived.Test.YtdicjcpcohclaaaDoorReader
import Derived.Test.YtdicjcpcohclaaaDoorReadT
import Derived.Test.YtdicjcpcohclaaaDoorZr
import Derived.Test.YtdicjcpcohclaaaDoorSpecRd
import Derived.OpenShut
set_option linter.unusedVariables false
set_option linter.unusedSimpArgs false
namespace Go.Proofs.YtdicjcpcohclaaaDoor.LCodeLong
open Go.ChangeShapes Go.RowKit Go.Proofs.YtdicjcpcohclaaaDoorW.PrintWords Go.Proofs.YtdicjcpcohclaaaDoor.B Go.Proofs.YtdicjcpcohclaaaDoor.PB Go.Proofs.YtdicjcpcohclaaaDoor.Err Go.Proofs.YtdicjcpcohclaaaDoor.Rdr Go.Proofs.YtdicjcpcohclaaaDoor.SCode

/-- What the text is. -/
def txt (f : List UInt8) (n : Nat) : List UInt8 := textB f ++ numB n ++ List.replicate n 0
theorem text1 (f : List UInt8) (n : Nat) (hf : f.length ≤ 50) : rText (txt f n) ⟨0, none⟩ = (⟨(textB f).length, none⟩, f) := by
  rw [rText_textB (txt f n) (numB n ++ List.replicate n 0) f 0 (by simp [txt]) (by omega), Nat.zero_add]
theorem text2 (f : List UInt8) (n : Nat) (hn : n ≤ 4096) : rText (txt f n) ⟨(textB f).length, none⟩ = (⟨(txt f n).length, none⟩, List.replicate n 0) := by
  have e : textB (List.replicate n (0 : UInt8)) = numB n ++ List.replicate n 0 := by rw [textB_eq _ (by simpa using hn)]; simp
  have h := rText_textB (txt f n) [] (List.replicate n 0) (textB f).length (by rw [e]; simp [txt]) (by simpa using hn)
  rw [h, e]
  simp [txt]
theorem text3 (f : List UInt8) (n : Nat) (h1 : 4096 < n) (h2 : n ≤ 1099511627776) : rText (txt f n) ⟨(textB f).length, none⟩ = (⟨(textB f).length + (numB n).length, some ((textB f).length, 2)⟩, []) :=
  rText_long _ (List.replicate n 0) n _ (by simp [txt]) h1 h2

set_option maxHeartbeats 8000000 in
set_option maxRecDepth 100000 in
theorem walk_out (v : Value) (b : List UInt8) (m : Int) (w : World) (hb : RdB w v b) (h : 50 < b.length ∨ m < -2 ∨ 2 < m) : Calls Tryd.prog 3 #[v, .int .i64 m] w fun e w' => e = .returned (.bool true) ∧ Fr No w w' := by
  obtain ⟨A, c, rfl, _⟩ := id hb
  clear hb
  have hc : (50 : Int) < (b.length : Int) ∨ (¬ (50 : Int) < (b.length : Int) ∧ m < -2) ∨ (¬ (50 : Int) < (b.length : Int) ∧ ¬ m < -2 ∧ 2 < m) := by omega
  clear h
  rcases hc with h1 | ⟨h1, h2⟩ | ⟨h1, h2, h3⟩
  all_goals
    go_enter Tryd.func3, Tryd.ntmps3
    go_wp2_with fail
    refine (CodeR.reads_calls w).mono ?_
    rintro e w1 ⟨rfl, hf⟩
    have F1 := Aside0.mk hf; clear hf
    go_wp2
    go_ret
    exact ⟨rfl, F1.out⟩

set_option maxHeartbeats 8000000 in
set_option maxRecDepth 100000 in
theorem walk_ok (v : Value) (f : List UInt8) (m : Int) (w : World) (hg : Gl w) (hb : RdB w v f) (hl : f.length ≤ 50) (hm0 : -2 ≤ m) (hm1 : m ≤ 2) : Calls Tryd.prog 3 #[v, .int .i64 m] w fun e w' => e = .returned (.bool true) ∧ Fr No w w' := by
  obtain ⟨A, c, rfl, _⟩ := id hb
  have HB := Aside0.mk hb; clear hb
  have HG := Aside0.mk hg; clear hg
  have g1 : ¬ (50 : Int) < (f.length : Int) := by omega
  have g2 : ¬ m < -2 := by omega
  have g3 : ¬ 2 < m := by omega
  obtain ⟨n, hn⟩ : ∃ n : Nat, 4096 + m = (n : Int) := ⟨(4096 + m).toNat, by omega⟩
  have hnn : 4094 ≤ n ∧ n ≤ 4098 := by omega
  have htl : (textB f).length ≤ 5006 := by
    have h6 := numB_length_six f.length (by omega)
    rw [textB_eq f (by omega), List.length_append]; omega
  have hnl := numB_length_six n (by omega)
  have hlen : (txt f n).length = (textB f).length + (numB n).length + n := by simp [txt]; omega
  have hnI : numI (n : Int) = numB n := by unfold numI; rw [clampN_nat n (by omega)]
  obtain ⟨X, hX⟩ : ∃ X, textB f ++ numB n = X := ⟨_, rfl⟩
  have hXl : X.length = (textB f).length + (numB n).length := by rw [← hX, List.length_append]
  obtain ⟨T, hT⟩ : ∃ T, txt f n = T := ⟨_, rfl⟩
  have hXT : X ++ List.replicate n 0 = T := by rw [← hX, ← hT]; rfl
  have HX := Aside0.mk hX; have HT := Aside0.mk hT; have HXT := Aside0.mk hXT; have HXL := Aside0.mk hXl; have HTL := Aside0.mk (show T.length = (textB f).length + (numB n).length + n by rw [← hT, hlen])
  clear hX hT hXT hXl hlen
  go_enter Tryd.func3, Tryd.ntmps3
  go_wp2_with fail
  refine (CodeR.reads_calls w).mono ?_
  rintro e w1 ⟨rfl, hf⟩
  have F1 := Aside0.mk hf; clear hf
  go_wp2_with fail
  refine (CodeR.text_calls (.slice none 0 0) [] _ f w1 (Ow.nil _ _ _) (HB.out.no F1.out) (by simp) (fun _ b _ hk => by cases hk)).mono ?_
  rintro e w2 ⟨v1, rfl, ho, hf, ha, -⟩
  rw [List.nil_append] at ho
  obtain ⟨A1, c1, rfl⟩ := ho.form
  have O1 := Aside0.mk ho
  have F2 : Aside0 (Fr No w w2) := ⟨F1.out.trans hf (fun k _ hk => by cases hk)⟩
  have N1 : Aside0 (∀ k, k < w.heap.size → ¬ blk (.slice A1 (textB f).length c1) k) := ⟨fun k hk hb => by have := ha.back hb (Nat.lt_of_lt_of_le hk F1.out.size); cases this⟩
  clear ho hf ha
  go_wp2_with fail
  refine (CodeW.num_calls _ (textB f) (n : Int) w2 O1.out (by omega)).mono ?_
  rw [hnI, HX.out]
  rintro e w3 ⟨v2, rfl, ho, hf, ha, -⟩
  obtain ⟨A2, c2, rfl⟩ := ho.form
  have O2 := Aside0.mk ho
  have F3 : Aside0 (Fr No w w3) := ⟨F2.out.trans hf (fun k hk hb => N1.out k hk hb)⟩
  have N2 : Aside0 (∀ k, k < w.heap.size → ¬ blk (.slice A2 X.length c2) k) := ⟨fun k hk hb => N1.out k hk (ha.back hb (Nat.lt_of_lt_of_le hk F2.out.size))⟩
  clear ho hf ha
  go_wp2_with (at_builtin; refine apMk (.slice A2 X.length c2) X n rfl (.tmp 29) (.tmp 31) rfl rfl rfl O2.out (by rw [HXL.out]; omega) ?_; intro v3 w4 h1 h2 h3; have G1 := Aside0.mk h1; have G2 := Aside0.mk h2; have G3 := Aside0.mk h3; clear h1 h2 h3)
  have hT1 : rText T ⟨0, none⟩ = (⟨(textB f).length, none⟩, f) := by rw [← HT.out]; exact text1 f n hl
  have HT1 := Aside0.mk hT1; clear hT1
  have hG := G1.out; rw [HXT.out] at hG
  obtain ⟨A3, c3, rfl⟩ := hG.form
  have O3 := Aside0.mk hG
  have F4 : Aside0 (Fr No w w4) := ⟨F3.out.trans (T := blk (.slice A2 X.length c2)) G2.out (fun k hk hb => N2.out k hk hb)⟩
  clear hG
  refine (read_calls O3.out.rd).mono ?_
  rintro e w5 ⟨rfl, hs, hf⟩
  obtain ⟨g, hgg⟩ : ∃ g, w4.heap.size = g := ⟨_, rfl⟩
  have HGS : Aside0 (w.heap.size ≤ g) := ⟨by rw [← hgg]; exact F4.out.size⟩
  have HNG : Aside0 (∀ (v : Value) (xs : List UInt8), RdB w v xs → 0 < xs.length → ∀ b, v.ownBlock = some b → ¬ one g b) := ⟨fun v xs hv hn b hb e => by
    have := Rd.lt (by decide) hv hn b hb
    have e' : b = g := e
    have := HGS.out; omega⟩
  have HS5 : Aside0 (St w5.drew g (.slice A3 T.length c3) T ⟨0, none⟩) := ⟨by rw [← hgg]; exact hs.no ((Fr.refl _ _).drew)⟩
  have F5 : Aside0 (Fr No w w5.drew) := ⟨(F4.out.none hf).drew⟩
  rw [hgg]
  clear hs hf hgg
  go_wp2
  refine Rg.start (fun _ x => RdB x (.slice A f.length c) f) (by kernel_rfl) (by kernel_rfl) [1] [[0, 1]] (by kernel_rfl) (.q 0 0 (.q 3 1 (.q 4 1 (.e 1 1 (.q 2 1 (.q 5 1 (.done))))))) (by kernel_rfl) ?_ ?_
  · exact fun _ => HB.out.no F5.out
  repeat (first
    | (refine Rg.q (o := ?_) (v := ?_) ?_ ?_ ?_ ?_ ?_
       rotate_left 2
       · (simp only [List.getElem?_toArray, List.getElem?_cons_succ, List.getElem?_cons_zero]; rfl)
       · exact fun _ _ _ h => h
       · first | rfl | (go_simp; done)
       · (intro x_ hx; (try dsimp only at hx); (have q1 := str_of_rd hx); go_simp; (try rw [if_neg (by omega)]); (try rw [if_pos (by omega)]); (try go_simp); try with_reducible rfl)
       try simp only [Act.put, List.setIfInBounds_toArray, List.set_cons_zero, List.set_cons_succ])
    | (refine Rg.skip (o := ?_) ?_ ?_ ?_ ?_
       rotate_left 1
       · (simp only [List.getElem?_toArray, List.getElem?_cons_succ, List.getElem?_cons_zero]; rfl)
       · exact fun _ _ _ h => h
       · first | rfl | (go_simp; done)
       try simp only [Act.put, List.setIfInBounds_toArray, List.set_cons_zero, List.set_cons_succ]))
  refine Rg.e (o := ?_) ?_ ?_
  rotate_left 1
  · (simp only [List.getElem?_toArray, List.getElem?_cons_succ, List.getElem?_cons_zero]; rfl)
  intro K hK
  go_simp
  refine (text_calls HS5.out (by rw [HTL.out]; omega)).mono ?_
  rw [HT1.out]
  rintro e w6 ⟨d, rfl, ho, hs, hf, -⟩
  have HS6 := Aside0.mk hs
  have S6 : Aside0 (RdB w6 (.slice A f.length c) f) := ⟨(HB.out.no F5.out).fr hf (fun hn b hb => HNG.out _ _ HB.out hn b hb)⟩
  have F6 : Aside0 (Fr No w w6) := ⟨F5.out.trans hf (fun k hk e => by have e' : k = g := e; have := HGS.out; omega)⟩
  have O6 := Aside0.mk ho
  clear hs hf ho
  go_simp
  refine hK.out _ _ (fun _ x => RdB x (.slice A f.length c) f ∧ RdB x d f) (fun k x hk h => h.1) ?_ ?_
  · exact fun _ _ => ⟨S6.out, O6.out.rd⟩
  try simp only [Act.put, List.setIfInBounds_toArray, List.set_cons_zero, List.set_cons_succ]
  repeat (first
    | (refine Rg.q (o := ?_) (v := ?_) ?_ ?_ ?_ ?_ ?_
       rotate_left 2
       · (simp only [List.getElem?_toArray, List.getElem?_cons_succ, List.getElem?_cons_zero]; rfl)
       · exact fun _ _ _ h => h
       · first | rfl | (go_simp; done)
       · (intro x_ hx; (try dsimp only at hx); (have q1 := str_of_rd hx.1; have q2 := str_of_rd hx.2); go_simp; (try rw [if_neg (by omega)]); (try rw [if_pos (by omega)]); (try go_simp); try with_reducible rfl)
       try simp only [Act.put, List.setIfInBounds_toArray, List.set_cons_zero, List.set_cons_succ])
    | (refine Rg.skip (o := ?_) ?_ ?_ ?_ ?_
       rotate_left 1
       · (simp only [List.getElem?_toArray, List.getElem?_cons_succ, List.getElem?_cons_zero]; rfl)
       · exact fun _ _ _ h => h
       · first | rfl | (go_simp; done)
       try simp only [Act.put, List.setIfInBounds_toArray, List.set_cons_zero, List.set_cons_succ]))
  refine Rg.done ?_
  go_simp
  go_wp2_with fail
  refine (text_calls HS6.out (by rw [HTL.out]; omega)).mono ?_
  rintro e w7 ⟨d2, rfl, ho, hs, hf, -⟩
  have F7 : Aside0 (Fr No w w7) := ⟨F6.out.trans hf (fun k hk e => by have e' : k = g := e; have := HGS.out; omega)⟩
  have HG7 : Aside0 (Gl w7) := ⟨HG.out.no F7.out⟩
  clear hf
  by_cases hm : m ≤ 0
  · have h0 : ¬ 0 < m := by omega
    have hT2 : rText T ⟨(textB f).length, none⟩ = (⟨T.length, none⟩, List.replicate n 0) := by rw [← HT.out]; exact text2 f n (by omega)
    rw [hT2] at ho hs
    obtain ⟨A7, c7, rfl⟩ := ho.form
    have HS7 := Aside0.mk hs
    rw [List.length_replicate]
    clear hT2 ho hs
    go_wp2_with fail
    refine (end_calls HS7.out).mono ?_
    have hE : rEnd T ⟨T.length, none⟩ = ⟨T.length, none⟩ := by unfold rEnd; simp
    rw [hE]
    rintro e w8 ⟨⟨ev, he, rfl⟩, hs, hf⟩
    obtain rfl : ev = .nilIface := he
    have F8 : Aside0 (Fr No w w8) := ⟨F7.out.trans hf (fun k hk e => by have e' : k = g := e; have := HGS.out; omega)⟩
    clear hs hf hE
    go_wp2
    go_ret
    exact ⟨rfl, F8.out⟩
  · have h0 : 0 < m := by omega
    have hT2 : rText T ⟨(textB f).length, none⟩ = (⟨(textB f).length + (numB n).length, some ((textB f).length, 2)⟩, []) := by rw [← HT.out]; exact text3 f n (by omega) (by omega)
    rw [hT2] at ho hs
    obtain ⟨A7, c7, rfl⟩ := ho.form
    have HS7 := Aside0.mk hs
    clear hT2 ho hs
    go_wp2_with fail
    refine (err_calls HS7.out).mono ?_
    rintro e w8 ⟨ev, he, rfl, rfl⟩
    have HE := Aside0.mk he
    clear he
    go_wp2_with fail
    refine (number_calls HG7.out HE.out).mono ?_
    rintro e w9 ⟨rfl, hf⟩
    simp only [noE, Option.map_some, Option.getD_some]
    have HS9 := Aside0.mk (HS7.out.no hf); have F9 := Aside0.mk (F7.out.none hf)
    clear hf
    go_wp2_with fail
    refine (err_calls HS9.out).mono ?_
    rintro e w10 ⟨ev9, he, rfl, rfl⟩
    have HE9 := Aside0.mk he
    clear he
    go_wp2_with fail
    refine (place_calls (HG.out.no F9.out) HE9.out).mono ?_
    rintro e w11 ⟨rfl, hf⟩
    simp only [plE, Option.map_some, Option.getD_some]
    have F11 := Aside0.mk (F9.out.none hf)
    clear hf
    go_wp2
    go_ret
    exact ⟨rfl, F11.out⟩
theorem walk (v : Value) (b : List UInt8) (m : Int) (w : World) (hg : Gl w) (hb : RdB w v b ∧ b.length ≤ reach) (_ : (Lit.int .i64 m).wf = true) : Calls Tryd.prog 3 #[v, .int .i64 m] w fun e w' => e = .returned (.bool true) ∧ Fr No w w' := by
  by_cases h : 50 < b.length ∨ m < -2 ∨ 2 < m
  · exact walk_out v b m w hb.1 h
  · exact walk_ok v b m w hg hb.1 (by omega) (by omega) (by omega)
end Go.Proofs.YtdicjcpcohclaaaDoor.LCodeLong
