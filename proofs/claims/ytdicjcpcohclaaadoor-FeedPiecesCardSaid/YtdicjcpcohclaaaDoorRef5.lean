/- The document's frames of a text (chapter 05): walked. -/
import Derived.Test.YtdicjcpcohclaaaDoorRef4
import Derived.Test.YtdicjcpcohclaaaDoorSpecFeed
import Derived.Test.YtdicjcpcohclaaaDoorBd
import Derived.Test.YtdicjcpcohclaaaDoorSpecPos
set_option linter.unusedVariables false
set_option linter.unusedSimpArgs false
namespace Go.Proofs.YtdicjcpcohclaaaDoor.Ref5
open Go.RowKit Go.IntWalk Go.Proofs.YtdicjcpcohclaaaDoorW.PrintWords Go.Proofs.YtdicjcpcohclaaaDoor.B Go.Proofs.YtdicjcpcohclaaaDoor.PB Go.Proofs.YtdicjcpcohclaaaDoor.SCode Go.Proofs.YtdicjcpcohclaaaDoor.Frm Go.Proofs.YtdicjcpcohclaaaDoor.Ref4

def fQ : Fl F3 := ⟨3, fun q => [.int .i64 (q.1 : Int), .int .i64 (q.2.1 : Int), .string (bstr q.2.2)], fun _ => rfl, fun e u hu => by
  rcases List.mem_cons.1 hu with rfl | hu
  · rfl
  · rcases List.mem_cons.1 hu with rfl | hu
    · rfl
    · rcases List.mem_cons.1 hu with rfl | hu
      · rfl
      · cases hu⟩
theorem infoQ : (Tryd.prog.info? 63).map (fun i => (i.zero, i.size, i.bytes)) = some (some (.agg #[.int .i64 0, .int .i64 0, .string ⟨#[]⟩]), 3, 32) := by kernel_rfl
theorem readS_nil : readS [] = (0, 0, [], 0, some (0, 30)) := by decide
theorem parse_nil : parse [] = ([], 0, none) := by
  rw [parse_err (q := (0, 30)) (by rw [readS_nil])]; rfl

set_option maxHeartbeats 4000000 in
set_option maxRecDepth 100000 in
theorem all_calls (b : List UInt8) (w : World) (hb : b.length ≤ 1000000000) : Calls Tryd.prog 44 #[.string (bstr b)] w fun e w' => ∃ vo, e = .returned (.tuple #[vo, .int .i64 ((parse b).2.1 : Nat), .int .i64 (oc (parse b).2.2 : Nat), .int .i64 (op (parse b).2.2 : Nat)]) ∧
    Ow fQ 63 w' vo (parse b).1 ∧ (∀ q, vo.ownBlock = some q → w.heap.size ≤ q) ∧ Fr No w w' := by
  obtain ⟨res, hres⟩ : ∃ res, parse b = res := ⟨_, rfl⟩
  have HRES := Aside0.mk hres
  rw [hres]
  clear hres
  go_enter Tryd.func44, Tryd.ntmps44
  go_wp2
  go_loopw [6, 7] (fun v6 v7 wr => ∃ (k : Nat) (L : List F3), v7 = .int .i64 (k : Int) ∧ k ≤ b.length ∧ L.length ≤ k ∧ Aside0 (Ow fQ 63 wr v6 L) ∧ Aside0 (∀ q, v6.ownBlock = some q → w.heap.size ≤ q) ∧
    Aside0 (parse b = (L ++ (parse (b.drop k)).1, k + (parse (b.drop k)).2.1, (parse (b.drop k)).2.2.map fun q => (k + q.1, q.2))) ∧ Aside0 (Fr No w wr)) (fun _ v7 _ => b.length - (intOf v7).toNat)
  case atStart => exact ⟨0, [], rfl, Nat.zero_le _, Nat.le_refl _, ⟨Ow.nil _ _ _⟩, ⟨fun q hq => by cases hq⟩, ⟨by simp only [List.drop_zero, List.nil_append, Nat.zero_add, Option.map_id']⟩, ⟨Fr.refl _ _⟩⟩
  case round =>
    obtain ⟨k, L, rfl, hk, hL, HO, HN, HP, HF⟩ := hrel
    by_cases hlt : k < b.length
    · have hlI : (k : Int) < (b.length : Int) := by omega
      go_wp2_with fail
      obtain ⟨h, hh⟩ : ∃ h, b.drop k = h := ⟨_, rfl⟩
      have hhl : h.length = b.length - k := by rw [← hh, List.length_drop]
      have HH := Aside0.mk hh
      have hlb : h.length ≤ 1000000000 := by omega
      have HHL := Aside0.mk hhl
      rw [hh] at HP ⊢
      clear hh hhl
      refine (Ref4.read_calls h (by omega) wr).mono ?_
      have hplc := readS_plc h
      have hok := readS_ok h
      have hpe := @parse_err h
      have hpo := @parse_ok h
      obtain ⟨⟨kk, s, xs, n, er⟩, hrd⟩ : ∃ q, readS h = q := ⟨_, rfl⟩
      rw [hrd] at hplc hok hpe hpo ⊢
      dsimp only at hplc hok hpe hpo ⊢
      rintro e w3 ⟨rfl, hf3⟩
      have FX : Aside0 (Fr No wr (w3.alloc (.cells (fc kk s xs) 63))) := ⟨hf3.alloc _⟩
      have H1 := Aside0.mk hplc; have H2 := Aside0.mk hok; have H3 := Aside0.mk @hpe; have H4 := Aside0.mk @hpo
      have HP0 : Aside0 (∀ p e, er = some (p, e) → 0 < e) := ⟨fun p e h9 => readS_pos h (p, e) (by rw [hrd]; exact h9)⟩
      clear hplc hok hpe hpo hrd hf3
      rcases er with _ | ⟨p, e⟩
      · obtain ⟨hn1, hn2, hn3⟩ := H2.out rfl
        have HPO := Aside0.mk (H4.out rfl)
        rw [show oc none = 0 from rfl, show op none = 0 from rfl]
        clear H1 H2 H3 H4 HP0
        go_upto_region 9 with (refine PB.stRow (.tmp 8) (.tmp 21) 63 w3.heap.size 63 _ (fc kk s xs) rfl rfl rfl rfl (heap_alloc_new w3 _) (by kernel_rfl) rfl (by simp [Value.oneCell']) ?_; rw [World.setRow_alloc_new])
        change Code.wp _ _ _ _ (w3.alloc (.cells (fc kk s xs) 63))
        have XF : Aside0 ((w3.alloc (.cells (fc kk s xs) 63)).heap[w3.heap.size]? = some (.cells (fc kk s xs) 63 (0, 0))) := ⟨heap_alloc_new w3 _⟩
        generalize w3.alloc (.cells (fc kk s xs) 63) = wx at FX XF ⊢
        have LX := ld_all (P := Tryd.prog) (ty := 63) XF.out Tryd.underlying63 rfl (by kernel_rfl)
        go_wp2_with (first
          | (refine ldG (.tmp 8) 63 _ _ rfl rfl (LX _ (Fr.refl _ _)) (by first | rfl | (go_simp; done)) ?_)
          | (at_builtin; refine ap1 (f := fQ) rfl (.tmp 37) (.tmp 39) 78 63 (.agg #[.int .i64 0, .int .i64 0, .string ⟨#[]⟩]) 32 rfl Tryd.underlying78 infoQ rfl (by decide) (by decide) u6 L (kk, s, xs) [.int .i64 (kk : Int), .int .i64 (s : Int), .string (bstr xs)] rfl rfl rfl (HO.out.no FX.out) ?c3 ?_; (case c3 => omega); intro v5 w5 h1 h2 h3 h4; have J1 := Aside0.mk h1; have J2 := Aside0.mk h2; have J3 := Aside0.mk h3; clear h1 h2 h3 h4))
        go_roundw
        case rel =>
          have hdd : h.drop n = b.drop (k + n) := by rw [← HH.out, List.drop_drop]
          have hwx := FX.out.size; have hwr := HF.out.size
          refine ⟨k + n, L ++ [(kk, s, xs)], by go_num, by have := HHL.out; omega, by simp; omega, J1, ⟨fun q hq => ?_⟩, ⟨?_⟩, ⟨(HF.out.none FX.out).trans J2.out (fun q hq hb => absurd (HN.out q hb) (by omega))⟩⟩
          · rcases J3.out with h9 | ⟨q', h9, h10⟩
            · rw [hq] at h9; exact HN.out q h9.symm
            · rw [hq] at h9; injection h9 with h9; omega
          · rw [HP.out, HPO.out, ← hdd]
            simp only [List.append_assoc, List.cons_append, List.nil_append, Nat.add_assoc, Option.map_map]
            rfl
        case measure => simp [intOf]; omega
      · have he0 := HP0.out p e rfl
        have hp := H3.out rfl
        have hP := HP.out
        have hpl : p ≤ h.length := H1.out _ rfl
        rw [show oc (some (p, e)) = e from rfl, show op (some (p, e)) = p from rfl]
        clear H1 H2 H4 HP0
        by_cases h30 : e = 30
        · subst h30
          rw [if_pos rfl] at hp
          rw [hp] at hP
          simp only [List.append_nil, Nat.add_zero, Option.map_none] at hP
          have HX := Aside0.mk (HRES.out.symm.trans hP)
          clear hp hP he0
          go_wp2_with (refine PB.stRow (.tmp 8) (.tmp 21) 63 w3.heap.size 63 _ (fc kk s xs) rfl rfl rfl rfl (heap_alloc_new w3 _) (by kernel_rfl) rfl (by simp [Value.oneCell']) ?_; rw [World.setRow_alloc_new])
          (try simp only [Exit.inBlock, Exit.then]); refine bodyPost_ret (results_list (rs := [.tmp 2, .tmp 3, .tmp 4, .tmp 5]) rfl (by simp) (.tmp (.tmp (.tmp (.tmp .nil))))) rfl ?_
          rw [HX.out]
          exact ⟨u6, rfl, HO.out.no FX.out, HN.out, HF.out.none FX.out⟩
        · have heA : ((e : Int) == 30) = false := by rw [beq_eq_false_iff_ne]; omega
          have heB : ((e : Int) != 0) = true := by rw [bne_iff_ne]; omega
          rw [if_neg h30] at hp
          rw [hp] at hP
          simp only [List.append_nil, Nat.add_zero, Option.map_some] at hP
          have HX := Aside0.mk (HRES.out.symm.trans hP)
          clear hp hP h30 he0
          go_wp2_with (refine PB.stRow (.tmp 8) (.tmp 21) 63 w3.heap.size 63 _ (fc kk s xs) rfl rfl rfl rfl (heap_alloc_new w3 _) (by kernel_rfl) rfl (by simp [Value.oneCell']) ?_; rw [World.setRow_alloc_new])
          (try simp only [Exit.inBlock, Exit.then]); refine bodyPost_ret (results_list (rs := [.tmp 2, .tmp 3, .tmp 4, .tmp 5]) rfl (by simp) (.tmp (.tmp (.tmp (.tmp .nil))))) rfl ?_
          rw [HX.out]
          exact ⟨u6, rfl, HO.out.no FX.out, HN.out, HF.out.none FX.out⟩
    · have hlI : ¬ (k : Int) < (b.length : Int) := by omega
      have hd : b.drop k = [] := List.drop_of_length_le (by omega)
      have hP := HP.out
      rw [hd, parse_nil] at hP
      simp only [List.append_nil, Nat.add_zero, Option.map_none] at hP
      have HX := Aside0.mk (HRES.out.symm.trans hP)
      clear hd hP
      go_wp2
      (try simp only [Exit.inBlock, Exit.then]); refine bodyPost_ret (results_list (rs := [.tmp 2, .tmp 3, .tmp 4, .tmp 5]) rfl (by simp) (.tmp (.tmp (.tmp (.tmp .nil))))) rfl ?_
      rw [HX.out]
      exact ⟨u6, rfl, HO.out, HN.out, HF.out⟩
end Go.Proofs.YtdicjcpcohclaaaDoor.Ref5
