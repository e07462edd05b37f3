/- The walk of the law PatchLong. -/
import Derived.Test.YtnfneokmiopieaaDoorPatS
import Derived.Test.YtnfneokmiopieaaDoorMk
import Derived.Test.YtnfneokmiopieaaDoorErrW
set_option linter.unusedVariables false
set_option linter.unusedSimpArgs false
namespace Go.Proofs.YtnfneokmiopieaaDoor.LPatchLong
open Go.RowKit Go.IntWalk Go.Proofs.YtnfneokmiopieaaDoorW.PrintWords Go.Proofs.YtnfneokmiopieaaDoor.B Go.Proofs.YtnfneokmiopieaaDoor.PB Go.Proofs.YtnfneokmiopieaaDoor.Err Go.Proofs.YtnfneokmiopieaaDoor.STell Go.Proofs.YtnfneokmiopieaaDoor.SJoin Go.Proofs.YtnfneokmiopieaaDoor.Tk Go.Proofs.YtnfneokmiopieaaDoor.Pat Go.Proofs.YtnfneokmiopieaaDoor.Blk Go.Proofs.YtnfneokmiopieaaDoor.SBlk Go.Proofs.YtnfneokmiopieaaDoor.Bk Go.Proofs.YtnfneokmiopieaaDoor.L6 Go.Proofs.YtnfneokmiopieaaDoor.L7

theorem ex_slice_hi {P : Program} {ρ : Operand → Value} {o : Oper} {W : World} {ty : TypeId} {s h : Operand} {v : Value} (hu : P.underlying ty = some (.slice (P.elem ty))) (ho : o.op = .slice ty s none (some h) none) (hr : (Instr.slice ty (ρ s) none (some (ρ h)) none).run P W = .ok v W) : (execOp ρ o).run P W = .ok (.value v) W := by
  unfold execOp
  simp only [ho, Option.map_some, Option.map_none, Sem.run_bind, Sem.run_pure, Sem.run_map, Result.andThen_ok, run_sliceAt_slice W ty _ _ _ _ hu, hr]
theorem run_bs2 {P : Program} {t e : TypeId} {s : Nat} (hu : P.underlying t = some (.slice e)) (hi : (P.info? e).map (·.size) = some s) (hz : ((P.info? e).bind (·.zero)).isSome = true) (hs0 : 0 < s) (hs1 : s ≤ 1000) (v1 v2 : Array Value) (h1 : v1.size = s) (h2 : v2.size = s) (W : World) :
    (Instr.buildSlice t 2 #[(0, .agg v1), (1, .agg v2)]).run P W = .ok (.slice (some ⟨W.heap.size, 0, none⟩) 2 2) (W.alloc (.cells (v1 ++ v2) e)) := by
  cases hie : P.info? e with
  | none => simp [hie] at hi
  | some ie =>
    simp only [hie, Option.map_some, Option.some.injEq, Option.bind_some] at hi hz
    obtain ⟨z, hzz⟩ := Option.isSome_iff_exists.1 hz
    refine run_buildSlice W t e 2 _ _ ie z hu hie hzz (by rw [hi]; omega) (by rw [hi]; omega) ?_
    rw [hi]
    have := Great.fill_whole (s := s) hs0 [.agg v1, .agg v2] ((Array.range (2 * s)).map (z.cells[· % z.cells.size]!)) (fun u hu => by
      simp at hu
      rcases hu with rfl | rfl
      · exact h1
      · exact h2) (by simp)
    rw [show v1 ++ v2 = (v1.toList ++ v2.toList).toArray from by apply Array.ext'; simp]
    simpa [Value.cells] using this
set_option maxRecDepth 100000 in
theorem twoT (f c f' c' : Int) (d d' : Value) (W : World) : (Instr.buildSlice 23 2 #[(0, .agg (tkC f c d)), (1, .agg (tkC f' c' d'))]).run Tryd.prog W = .ok (.slice (some ⟨W.heap.size, 0, none⟩) 2 2) (W.alloc (.cells (tkC f c d ++ tkC f' c' d') 52)) :=
  run_bs2 (s := 3) Tryd.underlying23 (by kernel_rfl) (by kernel_rfl) (by decide) (by decide) _ _ rfl rfl W
theorem rd_two {α : Type} {f : Fl α} (W : World) (x y : α) (cs : Array Value) (hcs : cs = (f.enc x ++ f.enc y).toArray) (t : TypeId) : Rd f (W.alloc (.cells cs t)) (.slice (some ⟨W.heap.size, 0, none⟩) 2 2) [x, y] := by
  subst hcs
  refine ⟨_, 2, rfl, by simp, by simp [maxLen], fun _ => ⟨_, rfl, fun i u hu => ?_⟩⟩
  rw [f.cells_cons, f.cells_one] at hu
  exact heap_new_cells W (f.enc x ++ f.enc y) t i u hu

/-- A file of noughts. -/
def zs (n : Nat) : List UInt8 := List.replicate n 0
theorem zs_length (n : Nat) : (zs n).length = n := List.length_replicate
theorem made_zero : makeE (zs 1024).length 1024 0 = 0 := by rw [zs_length]; decide
theorem tell_zeros {f : List UInt8 → Option Nat} {i : Nat} (hf : f (zs 1024) = some i) : ∀ (m n : Nat) (out : List Tok), n ≤ m → (tell 1024 f (zs n) out).length ≤ out.length + n / 1024 + 1024 := by
  intro m
  induction m with
  | zero =>
    intro n out hn
    have := tell_length (s := 1024) (by decide) f (zs n) out
    rw [zs_length] at this
    omega
  | succ m ih =>
    intro n out hn
    by_cases h : n < 1024
    · have := tell_length (s := 1024) (by decide) f (zs n) out
      rw [zs_length] at this
      omega
    · have hne : zs n ≠ [] := fun e => by have := congrArg List.length e; rw [zs_length] at this; simp at this; omega
      have ht : (zs n).take 1024 = zs 1024 := by unfold zs; rw [List.take_replicate, Nat.min_eq_left (by omega)]
      have hd : (zs n).drop 1024 = zs (n - 1024) := by unfold zs; rw [List.drop_replicate]
      rw [tell_hit out (by decide) hne (i := i) (by rw [ht]; exact hf), hd]
      have h1 := ih (n - 1024) (addT out ((i : Int), 1, [])) (by omega)
      have h2 := (addT_length out ((i : Int), 1, [])).1
      omega
theorem tell_zero (n : Nat) (h : n ≤ 65536) : (tellR 1024 0 1024 (blocks 1024 0 (zs 1024) 1) (zs n)).length ≤ 8192 := by
  have hc : cnt (zs 1024).length 1024 = 1 := by rw [zs_length]; decide
  have h0 : makeE (zs 1024).length ((1024 : Nat) : Int) 0 = 0 := made_zero
  have h1 := tellR_made (b := zs 1024) (s := 1024) (cut := 0) h0 (zs n)
  rw [hc, zs_length] at h1
  obtain ⟨r, hr, _⟩ := find_own (zs 1024) 1024 0 1 0 (by decide)
  have hp : piece 1024 (zs 1024) 0 = zs 1024 := by
    unfold piece
    rw [Nat.zero_mul, List.drop_zero, List.take_of_length_le (by rw [zs_length]; exact Nat.le_refl _)]
  rw [hp] at hr
  have h2 := tell_zeros (f := fB 1024 1024 0 (blocks 1024 0 (zs 1024) 1)) (i := r) (by
    unfold fB
    rw [zs_length] at hr ⊢
    exact hr) n n [] (Nat.le_refl _)
  have h3 : tellR 1024 0 1024 (blocks 1024 0 (zs 1024) 1) (zs n) = tell 1024 (fB 1024 1024 0 (blocks 1024 0 (zs 1024) 1)) (zs n) [] := h1
  rw [h3]
  rw [List.length_nil] at h2
  omega
theorem join_zero (k : Nat) (h : k ≤ 65536) : joinR (zs 1024) 1024 [(0, 0, zs k), (0, 1, [])] = if 65536 < k + 1024 then ([], 2, 1) else (zs k ++ zs 1024, 0, 0) := by
  have h1 : stepJ (zs 1024) 1024 [] (0, 0, zs k) = (0, zs k) := by
    unfold stepJ
    rw [if_neg (by simp), if_neg (by simp), if_neg (by rw [zs_length, List.length_nil]; omega)]
    rfl
  have hb : blkB (zs 1024) 1024 0 1 = zs 1024 := by
    unfold blkB
    rw [show ((0 : Int) * 1024).toNat = 0 from rfl, show ((1 : Int) * 1024).toNat = 1024 from rfl, List.drop_zero, List.take_of_length_le (by rw [zs_length]; exact Nat.le_refl _)]
  have h2 : stepJ (zs 1024) 1024 (zs k) (0, 1, []) = if 65536 < k + 1024 then (2, []) else (0, zs k ++ zs 1024) := by
    unfold stepJ
    rw [if_neg (by simp), if_pos (by simp)]
    rw [if_neg (by rw [zs_length]; decide)]
    dsimp only
    rw [hb, zs_length, zs_length]
  unfold joinR
  rw [joinL, h1, if_pos rfl]
  show joinL (zs 1024) 1024 1 (zs k) [(0, 1, [])] = _
  rw [joinL, h2]
  by_cases h3 : 65536 < k + 1024
  · rw [if_pos h3, if_pos h3, if_neg (by decide)]
  · rw [if_neg h3, if_neg h3, if_pos rfl]
    rfl

set_option maxHeartbeats 4000000 in
set_option maxRecDepth 100000 in
theorem tell_long (cs : Array Value) (vd : Value) (d : List UInt8) (ct : Int) (w : World) (hcs : cs.size = 4) (hd : RdB w vd d) (hl : 65536 < d.length) :
    Calls Tryd.prog 18 #[.agg cs, vd, .int .i64 ct] w fun e w' => e = .returned (.tuple #[.agg (toC (.slice none 0 0) 0 (List.replicate 32 0)), .int .i64 2]) ∧ Fr No w w' := by
  obtain ⟨A', c', rfl, _⟩ := id hd
  have hlI : (65536 : Int) < (d.length : Int) := by omega
  clear hd hl
  obtain ⟨x0, x1, x2, x3, rfl⟩ : ∃ x0 x1 x2 x3, cs = #[x0, x1, x2, x3] := by
    obtain ⟨l⟩ := cs
    match l, hcs with
    | [a, b, c, d], _ => exact ⟨a, b, c, d, rfl⟩
  clear hcs
  go_enter Tryd.func18, Tryd.ntmps18
  go_upto_region 1 with fail
  refine name_alloc (fun w2 h2 f2 => ?_)
  have F2 : Aside0 (Fr No w w2) := ⟨((Fr.refl _ _).alloc _).none f2⟩
  have hs1 : (w.alloc (.cells #[x0, x1, x2, x3] 46)).heap.size = w.heap.size + 1 := by simp
  rw [hs1] at h2
  obtain ⟨cs0, hcs0, hsz0⟩ : ∃ cs0 : Array Value, w2.heap[w.heap.size + 1]? = some (.cells cs0 40 (0, 0)) ∧ cs0.size = 34 := ⟨_, h2, rfl⟩
  have X2 := Aside0.mk hcs0; have HSZ := Aside0.mk hsz0
  clear h2 f2 hs1 hcs0 hsz0
  go_wp2_with (refine PB.stRow (.tmp 6) (.tmp 13) 40 (w.heap.size + 1) 40 cs0 (toC (.slice none 0 0) 0 (List.replicate 32 0)) rfl rfl rfl rfl X2.out (by rw [toC_size rfl]; kernel_rfl) (by rw [toC_size rfl]; exact HSZ.out) toC_one ?_)
  (try simp only [Exit.inBlock, Exit.then]); refine bodyPost_ret (results_list (rs := [.cell 6 40, .tmp 7]) rfl (by simp) (.cell (w.heap.size + 1) 40 (toC (.slice none 0 0) 0 (List.replicate 32 0)) (0, 0) _ rfl (setRow_heap _ _ _ _ _ _ X2.out) Tryd.underlying40 rfl (by rw [toC_size rfl]; kernel_rfl) (.tmp .nil))) rfl ?_
  exact ⟨rfl, fr_setRow F2.out (.inr (by omega)) _⟩

theorem make_zero (v : Value) (W : World) (h : RdB W v (zs 1024)) : Calls Tryd.prog 17 #[v, .int .i64 1024, .int .i64 0] W fun e w' => ∃ sl, e = .returned (.tuple #[.agg (sgC 1024 0 1024 sl), .int .i64 0]) ∧ OwS w' W.heap.size sl (blocks 1024 0 (zs 1024) 1) ∧ Fr No W w' := by
  have h1 := make_ok v (zs 1024) 1024 0 W h (by rw [zs_length]; decide) (by decide) made_zero
  rw [zs_length] at h1
  have hc : cnt 1024 (1024 : Int).toNat = 1 := by decide
  rw [hc] at h1
  exact h1
theorem chk_zero : chkE 1024 0 1024 (blocks 1024 0 (zs 1024) 1) = 0 := by
  have h1 := chk_made made_zero
  rw [zs_length] at h1
  have hc : cnt 1024 (1024 : Int).toNat = 1 := by decide
  rw [hc] at h1
  exact h1
set_option maxHeartbeats 8000000 in
set_option maxRecDepth 100000 in
theorem walk (m : Int) (w : World) (hg : Gl w) (hm : (Lit.int .i64 m).wf = true) : Calls Tryd.prog 5 #[.int .i64 m] w fun e w' => e = .returned (.bool true) ∧ Fr No w w' := by
  have HG := Aside0.mk hg
  clear hg hm
  by_cases h1 : m < -3
  · go_enter Tryd.func5, Tryd.ntmps5
    go_wp2_with fail
    refine (sends_calls _).mono ?_
    rintro e w1 ⟨rfl, hf⟩
    have F1 : Aside0 (Fr No w w1) := ⟨hf⟩
    clear hf
    go_wp2
    go_ret
    exact ⟨rfl, F1.out⟩
  by_cases h2 : 3 < m
  · go_enter Tryd.func5, Tryd.ntmps5
    go_wp2_with fail
    refine (sends_calls _).mono ?_
    rintro e w1 ⟨rfl, hf⟩
    have F1 : Aside0 (Fr No w w1) := ⟨hf⟩
    clear hf
    go_wp2
    go_ret
    exact ⟨rfl, F1.out⟩
  obtain ⟨n, hn⟩ : ∃ n : Nat, 65536 + m = (n : Int) := ⟨(65536 + m).toNat, by omega⟩
  obtain ⟨k, hk⟩ : ∃ k : Nat, (n : Int) - 1024 = (k : Int) := ⟨n - 1024, by omega⟩
  have hnl : 65533 ≤ n := by omega
  have hnu : n ≤ 65539 := by omega
  have hnw : IntKind.i64.wrap (n : Int) = (n : Int) := by rw [i64_left]; exact wrap64_in _ (by omega)
  have hkw : IntKind.i64.wrap (k : Int) = (k : Int) := by rw [i64_left]; exact wrap64_in _ (by omega)
  have hkn : k + 1024 = n := by omega
  obtain ⟨bs, hbs⟩ : ∃ bs, blocks 1024 0 (zs 1024) 1 = bs := ⟨_, rfl⟩
  have hbl : bs.length = 1 := by rw [← hbs]; exact blocks_length _ _ _ _
  have hmz := make_zero
  have hcz := chk_zero
  have htz := tell_zero n
  rw [hbs] at hcz htz
  simp only [hbs] at hmz
  have HMZ := Aside0.mk hmz; have HCZ := Aside0.mk hcz; have HTZ := Aside0.mk htz
  clear hmz hcz htz hbs
  go_enter Tryd.func5, Tryd.ntmps5
  go_wp2_with fail
  refine (sends_calls _).mono ?_
  rintro e w1 ⟨rfl, hf⟩
  have F1 : Aside0 (Fr No w w1) := ⟨hf⟩
  clear hf
  obtain ⟨w2, hmk, hO2, hf2⟩ := make_u8 n (by omega) w1
  obtain ⟨w3, hmk3, hO3, hf3⟩ := make_u8 1024 (by decide) w2
  obtain ⟨gd, hgd⟩ : ∃ gd, w1.heap.size = gd := ⟨_, rfl⟩
  obtain ⟨gz, hgz⟩ : ∃ gz, w2.heap.size = gz := ⟨_, rfl⟩
  rw [hgd] at hmk hO2
  rw [hgz] at hmk3 hO3
  have F3 : Aside0 (Fr No w w3) := ⟨(F1.out.none hf2).none hf3⟩
  have HD3 : Aside0 (RdB w3 (.slice (some ⟨gd, 0, none⟩) (zs n).length n) (zs n)) := ⟨by rw [zs_length]; exact hO2.rd.no hf3⟩
  have HZ3 : Aside0 (RdB w3 (.slice (some ⟨gz, 0, none⟩) 1024 1024) (zs 1024)) := ⟨hO3.rd⟩
  clear hO2 hO3 hf2 hf3 hgd hgz
  go_upto_region 6 with (refine lsX rfl (ex_makeSlice hmk rfl rfl rfl) ?_)
  go_wp2_with (first
    | (refine lsX rfl (ex_makeSlice hmk3 rfl rfl rfl) ?_)
    | fail)
  clear hmk hmk3
  refine (HMZ.out _ w3 HZ3.out).mono ?_
  rintro e w4 ⟨sl, rfl, hS, hf⟩
  have F4 : Aside0 (Fr No w3 w4) := ⟨hf⟩
  obtain ⟨A, c, rfl⟩ := hS.1.form
  have HS := Aside0.mk hS
  clear hf hS
  rw [hbl]
  go_upto_region 7 with fail
  refine name_alloc (fun w5 h5 f5 => ?_)
  have XS := Aside0.mk h5
  have F5 : Aside0 (Fr No w3 w5) := ⟨F4.out.none f5⟩
  have HV : Aside0 (Rd (fBk .u32) w5 (.slice A bs.length c) bs) := ⟨HS.out.1.rd.no f5⟩
  clear h5 f5 HS
  obtain ⟨g, hg⟩ : ∃ g, w4.heap.size = g := ⟨_, rfl⟩
  rw [hg] at XS ⊢
  clear hg
  have LD := ld_all (P := Tryd.prog) (ty := 46) XS.out Tryd.underlying46 rfl (by kernel_rfl)
  go_wp2_with (first
    | (refine ldG (.tmp 4) 46 _ _ rfl rfl (LD _ (Fr.refl _ _)) (by first | rfl | (go_simp; done)) ?_)
    | fail)
  clear LD
  by_cases hlong : 65536 < n
  case' pos =>
    have hp : 0 < m := by omega
    have hp2 : ¬ m ≤ 0 := by omega
    refine (tell_long (sgC 1024 0 1024 (.slice A 1 c)) _ (zs n) 1 w5 rfl (by have := HD3.out.no F5.out; rw [zs_length] at this; exact this) (by rw [zs_length]; exact hlong)).mono ?_
    rintro e w6 ⟨rfl, hf⟩
    have F6 : Aside0 (Fr No w3 w6) := ⟨F5.out.none hf⟩
    have HJ : Aside0 (joinR (zs 1024) 1024 [(0, 0, zs k), (0, 1, [])] = ([], 2, 1)) := ⟨by rw [join_zero k (by omega), if_pos (by omega)]⟩
    clear hf
    go_upto_region 10 with (refine PB.stRow (.tmp 6) (.tmp 32) 40 w6.heap.size 40 _ (toC (.slice none 0 0) 0 (List.replicate 32 0)) rfl rfl rfl rfl (heap_alloc_new w6 _) (by rw [toC_size rfl]; kernel_rfl) (by rw [toC_size rfl]; rfl) toC_one ?_; rw [World.setRow_alloc_new])
    refine name_alloc (fun wz _ fz => ?_)
    have FZ : Aside0 (Fr No w3 wz) := ⟨F6.out.none fz⟩
    clear fz
  case' neg =>
    have hp : ¬ 0 < m := by omega
    have hp2 : m ≤ 0 := by omega
    have hpd : decide (0 < m) = false := decide_eq_false hp
    clear hp
    refine (tell_big 1024 0 1024 (.slice A 1 c) (.slice (some ⟨gd, 0, none⟩) n n) bs (zs n) 1 w5 (by have := HV.out; rw [hbl] at this; exact this) (by have := HD3.out.no F5.out; rw [zs_length] at this; exact this) (by rw [zs_length]; omega) (HTZ.out (by omega)) (by decide) (by decide) HCZ.out (by decide) (by decide)).mono ?_
    rintro e w6 ⟨vo, rfl, hT, hf⟩
    obtain ⟨Ao, co, rfl⟩ := hT.form
    have hsl := Sha.cut_length 1 (zs n)
    obtain ⟨S, hS⟩ : ∃ S, Sha.cut 1 (zs n) = S := ⟨_, rfl⟩
    obtain ⟨q, hq⟩ : ∃ q, (tellR 1024 0 1024 bs (zs n)).length = q := ⟨_, rfl⟩
    rw [hS] at hsl ⊢
    rw [hq]
    have HSL := Aside0.mk hsl
    have F6 : Aside0 (Fr No w3 w6) := ⟨F5.out.none hf⟩
    have HJ : Aside0 (joinR (zs 1024) 1024 [(0, 0, zs k), (0, 1, [])] = (zs k ++ zs 1024, 0, 0)) := ⟨by rw [join_zero k (by omega), if_neg (by omega)]⟩
    clear hf hT hsl hS hq
    go_upto_region 10 with (refine PB.stRow (.tmp 6) (.tmp 32) 40 w6.heap.size 40 _ (toC (.slice Ao q co) 1 S) rfl rfl rfl rfl (heap_alloc_new w6 _) (by rw [toC_size HSL.out]; kernel_rfl) (by rw [toC_size HSL.out]; rfl) toC_one ?_; rw [World.setRow_alloc_new])
    refine name_alloc (fun wz _ fz => ?_)
    have FZ : Aside0 (Fr No w3 wz) := ⟨F6.out.none fz⟩
    clear fz
  all_goals
    have hcut : ∀ W : World, (Instr.slice 22 (.slice (some ⟨gd, 0, none⟩) n n) none (some (.int .i64 (k : Int))) none).run Tryd.prog W = .ok (.slice (some ⟨gd, 0, none⟩) k n) W := by
      obtain ⟨i, hi, _⟩ := Option.map_eq_some_iff.1 infoU8
      have := cut_to (P := Tryd.prog) 22 5 .i64 Tryd.underlying22 hi (some ⟨gd, 0, none⟩) n n (k : Int) (by omega) (by omega) (Nat.le_refl _)
      simpa using this
    have HK : Aside0 (RdB w3 (.slice (some ⟨gd, 0, none⟩) (zs k).length n) (zs k)) := ⟨by
      have := Rd.take HD3.out k (by rw [zs_length]; omega)
      rw [zs_length]
      have e : (zs n).take k = zs k := by unfold zs; rw [List.take_replicate, Nat.min_eq_left (by omega)]
      rw [e] at this
      exact this⟩
    obtain ⟨tk, htk⟩ : ∃ tk : List TV, tk = [(⟨0, 0, some ⟨gd, 0, none⟩, n, zs k⟩ : TV), (⟨0, 1, none, 0, []⟩ : TV)] := ⟨_, rfl⟩
    have HTK := Aside0.mk htk
    have HJC : Aside0 (∀ (vo vl : Value) (W : World), RdB W vo (zs 1024) → Rd fT W vl tk → Fr No w3 W → Calls Tryd.prog 10 #[vo, .int .i64 1024, vl] W fun e w' => ∃ v ev, e = .returned (.tuple #[v, ev]) ∧ On W w' v (joinR (zs 1024) 1024 [(0, 0, zs k), (0, 1, [])]).1 ∧ IsErr w' ev (errJ (joinR (zs 1024) 1024 [(0, 0, zs k), (0, 1, [])]))) := ⟨fun vo vl W q1 q2 q3 => by
      have e : tk.map TV.tok = [(0, 0, zs k), (0, 1, [])] := by rw [htk]; rfl
      have hmem : ∀ e ∈ tk, e = (⟨0, 0, some ⟨gd, 0, none⟩, n, zs k⟩ : TV) ∨ e = (⟨0, 1, none, 0, []⟩ : TV) := fun e he => by rw [htk] at he; simpa using he
      have := join_calls vo vl (zs 1024) 1024 tk W q1 q2 (fun e he => by
        rcases hmem e he with rfl | rfl
        · exact HK.out.no q3
        · exact Rd.nil _ _) (by rw [zs_length]; decide) (by rw [htk]; simp) (by decide) (fun e he => by
        rcases hmem e he with rfl | rfl
        · show (zs k).length ≤ _; rw [zs_length]; omega
        · exact Nat.zero_le _) (fun e he => by
        rcases hmem e he with rfl | rfl
        · show (0 : Int) ≤ _; decide
        · show (1 : Int) ≤ _; decide)
      rw [e] at this
      exact this.mono fun e w' ⟨v, ev, h1, h2, h3, _⟩ => ⟨v, ev, h1, h2, h3⟩⟩
    rw [HJ.out] at HJC
    have hlit : ∀ W : World, Rd fT (W.alloc (.cells (tkC 0 0 (.slice (some ⟨gd, 0, none⟩) k n) ++ tkC 0 1 (.slice none 0 0)) 52)) (.slice (some ⟨W.heap.size, 0, none⟩) 2 2) tk := fun W => by
      rw [htk]
      exact rd_two W _ _ _ (by simp [fT, TV.dv, zs_length]) _
    have HLIT := Aside0.mk hlit
    clear hlit htk
    refine Rg.start (fun _ x => Fr No wz x) (by kernel_rfl) (by kernel_rfl) [0, 8, 9] [[0], [7, 2, 3, 4, 1, 5, 6, 8], [7, 2, 3, 4, 1, 5, 6, 8, 0, 9]] (by kernel_rfl) (.q 1 1 (.q 2 1 (.q 3 1 (.q 4 1 (.q 5 1 (.q 6 1 (.q 7 1 (.two 0 1 (.e 8 2 (.e 9 3 (.q 10 3 (.q 11 3 (.q 12 3 (.q 13 3 (.q 14 3 (.done)))))))) 8 0 (.e 0 2 (.e 9 3 (.q 10 3 (.q 11 3 (.q 12 3 (.q 13 3 (.q 14 3 (.done)))))))))))))))) (by kernel_rfl) ?_ ?_
    · exact fun _ => (Fr.refl _ _).drew
    repeat (first
      | (refine Rg.q (o := ?_) (v := ?_) ?_ ?_ ?_ ?_ ?_
         rotate_left 2
         · (simp only [List.getElem?_toArray, List.getElem?_cons_succ, List.getElem?_cons_zero]; rfl)
         · exact fun _ _ _ h => h
         · first | rfl | (go_simp; done)
         · (intro x_ hx; (try dsimp only at hx); first | (fail) | ((refine (ex_slice_hi Tryd.underlying22 rfl (hcut _)).trans ?_; with_reducible rfl)) | (skip; (try clear hx); go_simp; (try rw [if_neg (by omega)]); (try rw [if_pos (by omega)]); (try go_simp); try with_reducible rfl))
         try simp only [Act.put, List.setIfInBounds_toArray, List.set_cons_zero, List.set_cons_succ])
      | (refine Rg.skip (o := ?_) ?_ ?_ ?_ ?_
         rotate_left 1
         · (simp only [List.getElem?_toArray, List.getElem?_cons_succ, List.getElem?_cons_zero]; rfl)
         · exact fun _ _ _ h => h
         · first | rfl | (go_simp; done)
         try simp only [Act.put, List.setIfInBounds_toArray, List.set_cons_zero, List.set_cons_succ]))
    refine Rg.two ?_ ?_
    focus
      obtain ⟨x1, hmx, hOx, hfx⟩ := make_u8 1024 (by decide) wz.drew
      have Z1 : Aside0 (RdB x1 (.slice (some ⟨wz.drew.heap.size, 0, none⟩) 1024 1024) (zs 1024)) := ⟨hOx.rd⟩
      have K1 : Aside0 (Fr No wz x1) := ⟨((Fr.refl No wz).drew).none hfx⟩
      refine Rg.e (o := ?_) ?_ ?_
      rotate_left 1
      · (simp only [List.getElem?_toArray, List.getElem?_cons_succ, List.getElem?_cons_zero]; rfl)
      intro K hK
      rw [if_pos (by first | rfl | (go_simp; done))]
      refine opX (ex_makeSlice hmx rfl rfl rfl) ?_
      clear hmx hOx hfx
      obtain ⟨gq, hgq⟩ : ∃ gq, wz.drew.heap.size = gq := ⟨_, rfl⟩
      rw [hgq] at Z1 ⊢
      clear hgq
      refine hK.out _ _ (fun _ x => Fr No wz x) (fun k x hk h => h) ?_ ?_
      · exact fun _ _ => K1.out
      try simp only [Act.put, List.setIfInBounds_toArray, List.set_cons_zero, List.set_cons_succ]
      repeat (first
        | (refine Rg.q (o := ?_) (v := ?_) ?_ ?_ ?_ ?_ ?_
           rotate_left 2
           · (simp only [List.getElem?_toArray, List.getElem?_cons_succ, List.getElem?_cons_zero]; rfl)
           · exact fun _ _ _ h => h
           · first | rfl | (go_simp; done)
           · (intro x_ hx; (try dsimp only at hx); first | (fail) | ((refine (ex_slice_hi Tryd.underlying22 rfl (hcut _)).trans ?_; with_reducible rfl)) | (skip; (try clear hx); go_simp; (try rw [if_neg (by omega)]); (try rw [if_pos (by omega)]); (try go_simp); try with_reducible rfl))
           try simp only [Act.put, List.setIfInBounds_toArray, List.set_cons_zero, List.set_cons_succ])
        | (refine Rg.skip (o := ?_) ?_ ?_ ?_ ?_
           rotate_left 1
           · (simp only [List.getElem?_toArray, List.getElem?_cons_succ, List.getElem?_cons_zero]; rfl)
           · exact fun _ _ _ h => h
           · first | rfl | (go_simp; done)
           try simp only [Act.put, List.setIfInBounds_toArray, List.set_cons_zero, List.set_cons_succ]))
      refine Rg.e (o := ?_) ?_ ?_
      rotate_left 1
      · (simp only [List.getElem?_toArray, List.getElem?_cons_succ, List.getElem?_cons_zero]; rfl)
      intro K hK
      rw [if_pos (by first | rfl | (go_simp; done))]
      refine opX (ex_buildSlice (twoT 0 0 0 1 (.slice (some ⟨gd, 0, none⟩) k n) (.slice none 0 0) x1) rfl rfl) ?_
      have HL := Aside0.mk (HLIT.out x1)
      have Z2 : Aside0 (RdB _ (.slice (some ⟨gq, 0, none⟩) 1024 1024) (zs 1024)) := ⟨Z1.out.no ((Fr.refl No x1).alloc (.cells (tkC 0 0 (.slice (some ⟨gd, 0, none⟩) k n) ++ tkC 0 1 (.slice none 0 0)) 52))⟩
      have K2 : Aside0 (Fr No wz _) := ⟨K1.out.alloc (.cells (tkC 0 0 (.slice (some ⟨gd, 0, none⟩) k n) ++ tkC 0 1 (.slice none 0 0)) 52)⟩
      generalize x1.alloc (.cells (tkC 0 0 (.slice (some ⟨gd, 0, none⟩) k n) ++ tkC 0 1 (.slice none 0 0)) 52) = x2 at HL Z2 K2 ⊢
      obtain ⟨gt, hgt⟩ : ∃ gt, x1.heap.size = gt := ⟨_, rfl⟩
      rw [hgt] at HL ⊢
      clear hgt Z1 K1
      refine hK.out _ _ (fun _ x => Fr No wz x) (fun k x hk h => h) ?_ ?_
      · exact fun _ _ => K2.out
      try simp only [Act.put, List.setIfInBounds_toArray, List.set_cons_zero, List.set_cons_succ]
      repeat (first
        | (refine Rg.q (o := ?_) (v := ?_) ?_ ?_ ?_ ?_ ?_
           rotate_left 2
           · (simp only [List.getElem?_toArray, List.getElem?_cons_succ, List.getElem?_cons_zero]; rfl)
           · exact fun _ _ _ h => h
           · first | rfl | (go_simp; done)
           · (intro x_ hx; (try dsimp only at hx); first | (fail) | ((refine (ex_slice_hi Tryd.underlying22 rfl (hcut _)).trans ?_; with_reducible rfl)) | (skip; (try clear hx); go_simp; (try rw [if_neg (by omega)]); (try rw [if_pos (by omega)]); (try go_simp); try with_reducible rfl))
           try simp only [Act.put, List.setIfInBounds_toArray, List.set_cons_zero, List.set_cons_succ])
        | (refine Rg.skip (o := ?_) ?_ ?_ ?_ ?_
           rotate_left 1
           · (simp only [List.getElem?_toArray, List.getElem?_cons_succ, List.getElem?_cons_zero]; rfl)
           · exact fun _ _ _ h => h
           · first | rfl | (go_simp; done)
           try simp only [Act.put, List.setIfInBounds_toArray, List.set_cons_zero, List.set_cons_succ]))
    rotate_left 1
    focus
      refine Rg.e (o := ?_) ?_ ?_
      rotate_left 1
      · (simp only [List.getElem?_toArray, List.getElem?_cons_succ, List.getElem?_cons_zero]; rfl)
      intro K hK
      rw [if_pos (by first | rfl | (go_simp; done))]
      refine opX (ex_buildSlice (twoT 0 0 0 1 (.slice (some ⟨gd, 0, none⟩) k n) (.slice none 0 0) wz.drew) rfl rfl) ?_
      have HL1 := Aside0.mk (HLIT.out wz.drew)
      have K1 : Aside0 (Fr No wz _) := ⟨((Fr.refl No wz).drew).alloc (.cells (tkC 0 0 (.slice (some ⟨gd, 0, none⟩) k n) ++ tkC 0 1 (.slice none 0 0)) 52)⟩
      generalize wz.drew.alloc (.cells (tkC 0 0 (.slice (some ⟨gd, 0, none⟩) k n) ++ tkC 0 1 (.slice none 0 0)) 52) = x1 at HL1 K1 ⊢
      obtain ⟨gt, hgt⟩ : ∃ gt, wz.drew.heap.size = gt := ⟨_, rfl⟩
      rw [hgt] at HL1 ⊢
      clear hgt
      refine hK.out _ _ (fun _ x => Fr No wz x) (fun k x hk h => h) ?_ ?_
      · exact fun _ _ => K1.out
      try simp only [Act.put, List.setIfInBounds_toArray, List.set_cons_zero, List.set_cons_succ]
      repeat (first
        | (refine Rg.q (o := ?_) (v := ?_) ?_ ?_ ?_ ?_ ?_
           rotate_left 2
           · (simp only [List.getElem?_toArray, List.getElem?_cons_succ, List.getElem?_cons_zero]; rfl)
           · exact fun _ _ _ h => h
           · first | rfl | (go_simp; done)
           · (intro x_ hx; (try dsimp only at hx); first | (fail) | ((refine (ex_slice_hi Tryd.underlying22 rfl (hcut _)).trans ?_; with_reducible rfl)) | (skip; (try clear hx); go_simp; (try rw [if_neg (by omega)]); (try rw [if_pos (by omega)]); (try go_simp); try with_reducible rfl))
           try simp only [Act.put, List.setIfInBounds_toArray, List.set_cons_zero, List.set_cons_succ])
        | (refine Rg.skip (o := ?_) ?_ ?_ ?_ ?_
           rotate_left 1
           · (simp only [List.getElem?_toArray, List.getElem?_cons_succ, List.getElem?_cons_zero]; rfl)
           · exact fun _ _ _ h => h
           · first | rfl | (go_simp; done)
           try simp only [Act.put, List.setIfInBounds_toArray, List.set_cons_zero, List.set_cons_succ]))
      obtain ⟨x2, hmx, hOx, hfx⟩ := make_u8 1024 (by decide) x1
      have Z2 : Aside0 (RdB x2 (.slice (some ⟨x1.heap.size, 0, none⟩) 1024 1024) (zs 1024)) := ⟨hOx.rd⟩
      have K2 : Aside0 (Fr No wz x2) := ⟨K1.out.none hfx⟩
      have HL := Aside0.mk (HL1.out.no hfx)
      refine Rg.e (o := ?_) ?_ ?_
      rotate_left 1
      · (simp only [List.getElem?_toArray, List.getElem?_cons_succ, List.getElem?_cons_zero]; rfl)
      intro K hK
      rw [if_pos (by first | rfl | (go_simp; done))]
      refine opX (ex_makeSlice hmx rfl rfl rfl) ?_
      clear hmx hOx hfx
      obtain ⟨gq, hgq⟩ : ∃ gq, x1.heap.size = gq := ⟨_, rfl⟩
      rw [hgq] at Z2 ⊢
      clear hgq HL1 K1
      refine hK.out _ _ (fun _ x => Fr No wz x) (fun k x hk h => h) ?_ ?_
      · exact fun _ _ => K2.out
      try simp only [Act.put, List.setIfInBounds_toArray, List.set_cons_zero, List.set_cons_succ]
      repeat (first
        | (refine Rg.q (o := ?_) (v := ?_) ?_ ?_ ?_ ?_ ?_
           rotate_left 2
           · (simp only [List.getElem?_toArray, List.getElem?_cons_succ, List.getElem?_cons_zero]; rfl)
           · exact fun _ _ _ h => h
           · first | rfl | (go_simp; done)
           · (intro x_ hx; (try dsimp only at hx); first | (fail) | ((refine (ex_slice_hi Tryd.underlying22 rfl (hcut _)).trans ?_; with_reducible rfl)) | (skip; (try clear hx); go_simp; (try rw [if_neg (by omega)]); (try rw [if_pos (by omega)]); (try go_simp); try with_reducible rfl))
           try simp only [Act.put, List.setIfInBounds_toArray, List.set_cons_zero, List.set_cons_succ])
        | (refine Rg.skip (o := ?_) ?_ ?_ ?_ ?_
           rotate_left 1
           · (simp only [List.getElem?_toArray, List.getElem?_cons_succ, List.getElem?_cons_zero]; rfl)
           · exact fun _ _ _ h => h
           · first | rfl | (go_simp; done)
           try simp only [Act.put, List.setIfInBounds_toArray, List.set_cons_zero, List.set_cons_succ]))
    all_goals
      refine Rg.e (o := ?_) ?_ ?_
      rotate_left 1
      · (simp only [List.getElem?_toArray, List.getElem?_cons_succ, List.getElem?_cons_zero]; rfl)
      intro K hK
      go_simp
      refine (HJC.out _ _ x2 Z2.out HL.out (FZ.out.none K2.out)).mono ?_
      rintro en x3 ⟨v, ev, rfl, hN, hE⟩
      obtain ⟨Av, cv, rfl⟩ := hN.own.form
      have K3 : Aside0 (Fr No w x3) := ⟨((F3.out.none FZ.out).none K2.out).none hN.fr⟩
      have HE := Aside0.mk hE
      have K9 : Aside0 (Fr No wz x3) := ⟨K2.out.none hN.fr⟩
      clear hN hE
      go_simp
      refine hK.out _ _ (fun _ x => Fr No wz x) (fun k x hk h => h) ?_ ?_
      · exact fun _ _ => K9.out
      try simp only [Act.put, List.setIfInBounds_toArray, List.set_cons_zero, List.set_cons_succ]
      repeat (first
        | (refine Rg.q (o := ?_) (v := ?_) ?_ ?_ ?_ ?_ ?_
           rotate_left 2
           · (simp only [List.getElem?_toArray, List.getElem?_cons_succ, List.getElem?_cons_zero]; rfl)
           · exact fun _ _ _ h => h
           · first | rfl | (go_simp; done)
           · (intro x_ hx; (try dsimp only at hx); (skip); go_simp; (try rw [if_neg (by omega)]); (try rw [if_pos (by omega)]); (try go_simp); try with_reducible rfl)
           try simp only [Act.put, List.setIfInBounds_toArray, List.set_cons_zero, List.set_cons_succ])
        | (refine Rg.skip (o := ?_) ?_ ?_ ?_ ?_
           rotate_left 1
           · (simp only [List.getElem?_toArray, List.getElem?_cons_succ, List.getElem?_cons_zero]; rfl)
           · exact fun _ _ _ h => h
           · first | rfl | (go_simp; done)
           try simp only [Act.put, List.setIfInBounds_toArray, List.set_cons_zero, List.set_cons_succ]))
      refine Rg.done ?_
      go_simp
      clear hcut
      go_wp2_with fail
      refine (number_calls (HG.out.no K3.out) HE.out).mono ?_
      rintro en x4 ⟨rfl, hf⟩
      have K4 : Aside0 (Fr No w x4) := ⟨K3.out.none hf⟩
      have HE4 := Aside0.mk (HE.out.no hf)
      clear hf HE
      first
        | (rw [show noE (errJ (([] : List UInt8), (2 : Int), (1 : Nat))) = 2 from rfl]
           go_wp2_with fail
           refine (place_calls (HG.out.no K4.out) HE4.out).mono ?_
           rw [show plE (errJ (([] : List UInt8), (2 : Int), (1 : Nat))) = 1 from rfl]
           rintro en x5 ⟨rfl, hf⟩
           have K5 : Aside0 (Fr No w x5) := ⟨K4.out.none hf⟩
           clear hf
           go_wp2
           go_ret
           exact ⟨rfl, K5.out⟩)
        | (rw [show noE (errJ (zs k ++ zs 1024, (0 : Int), (0 : Nat))) = 0 from rfl]
           go_wp2
           go_ret
           exact ⟨rfl, K4.out⟩)
end Go.Proofs.YtnfneokmiopieaaDoor.LPatchLong
