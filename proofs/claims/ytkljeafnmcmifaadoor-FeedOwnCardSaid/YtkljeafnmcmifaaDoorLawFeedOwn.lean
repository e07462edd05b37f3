/- The walk of the law FeedOwn. -/
import Derived.Test.YtkljeafnmcmifaaDoorFeedL
import Derived.Test.YtkljeafnmcmifaaDoorFeedC
import Derived.Laws.OwnMore
import Derived.Test.YtkljeafnmcmifaaDoorSpecFeed2
import Derived.Test.YtkljeafnmcmifaaDoorLiftF
import Derived.Test.YtkljeafnmcmifaaDoorCutR
import Derived.OpenShut
set_option linter.unusedVariables false
set_option linter.unusedSimpArgs false
namespace Go.Proofs.YtkljeafnmcmifaaDoor.LFeedOwn
open Go.RowKit Go.IntWalk Go.Proofs.YtkljeafnmcmifaaDoorW.PrintWords Go.Proofs.YtkljeafnmcmifaaDoor.B Go.Proofs.YtkljeafnmcmifaaDoor.PB Go.Proofs.YtkljeafnmcmifaaDoor.Err Go.Proofs.YtkljeafnmcmifaaDoor.SCode Go.Proofs.YtkljeafnmcmifaaDoor.Frm Go.Proofs.YtkljeafnmcmifaaDoor.Fee
attribute [local go_sem] B.max2_int B.min2_int B.max_two B.min_two

/-- A feed whose own cells and row have not changed. -/
theorem Fd_fr {S : Nat → Prop} {w w' : World} {g : Nat} {t : TypeId} {pre post : List Value} {v : Value} {held : List UInt8} {rd : Nat} {er : Option (Nat × Nat)} (h : Fee.Fd w g t pre post v held rd er) (k : Fr S w w') (h1 : ¬ S g) (h2 : ∀ q, v.ownBlock = some q → ¬ S q) (h3 : ∀ b cs, w.heap[b]? = some (.cells cs 56 (0, 0)) → ¬ S b) : Fee.Fd w' g t pre post v held rd er := by
  obtain ⟨⟨ev, a1, a2⟩, a3, a4, a5, a6⟩ := h
  exact ⟨⟨ev, k.heap a1 h1, a2.fr k h3⟩, a3.fr k h2, a4, a5, a6⟩
theorem typed_ne {α : Type} {f : Fl α} {e : Nat} {w : World} {v : Value} {xs : List α} (h : Ow f e w v xs) {b : Nat} {cs : Array Value} {t : TypeId} (hb : w.heap[b]? = some (.cells cs t (0, 0))) (ht : t ≠ e) : ¬ blk v b := fun hq => by
  obtain ⟨cs', h'⟩ := h.typed b hq
  rw [hb] at h'
  injection h' with h'
  injection h' with _ h'
  exact ht h'
/-- A byte of a row of one's own, turned. -/
theorem zero_at {w : World} {g a c : Nat} {xs : List UInt8} (h : OwB w (.slice (some ⟨g, 0, none⟩) a c) xs) (hl : xs.length = a) (i : Nat) (hi : i < a) : (∃ u, w.cell? ⟨g, i, none⟩ = some (vu8 u)) ∧ w.frozen? ⟨g, i, none⟩ = false ∧ OwB (w.setCell ⟨g, i, none⟩ (.int .u8 0)) (.slice (some ⟨g, 0, none⟩) a c) (xs.set i 0) := by
  subst hl
  unfold OwB Ow at h
  refine ⟨⟨xs[i], ?_⟩, World.ownsRow.frozenAt h i, ?_⟩
  · rw [World.ownsRow.cellAt h i (by rw [u8_sz]; omega), u8_cells, List.getElem?_map, List.getElem?_eq_getElem hi]; rfl
  · have := (World.ownsRow.stored h i (.int .u8 0)).1
    unfold OwB Ow
    rw [List.length_set]
    have e : (u8.cells xs).set i (.int .u8 0) = u8.cells (xs.set i 0) := by rw [u8_cells, u8_cells, List.map_set]; rfl
    rw [e] at this
    exact this

theorem walk_out (vb : Value) (b : List UInt8) (z : Int) (w : World) (hg : Gl w) (hb : RdB w vb b) (h : 500 < b.length) : Calls Tryd.prog 6 #[vb, .int .i64 z] w fun e w' => e = .returned (.bool true) ∧ Fr No w w' := by
  obtain ⟨A, c, rfl, _⟩ := id hb
  have hI : (500 : Int) < (b.length : Int) := by omega
  have HG := Aside0.mk hg
  clear hb hg
  go_enter Tryd.func6, Tryd.ntmps6
  go_wp2_with fail
  refine (feeds_calls _ HG.out).mono ?_
  rintro e w1 ⟨rfl, hf⟩
  have F1 := Aside0.mk hf; clear hf
  go_wp2
  go_ret
  exact ⟨rfl, F1.out⟩

set_option maxHeartbeats 8000000 in
set_option maxRecDepth 100000 in
theorem walk_ok (vb : Value) (b : List UInt8) (z : Int) (w : World) (hg : Gl w) (hb : RdB w vb b) (h5 : b.length ≤ 500) : Calls Tryd.prog 6 #[vb, .int .i64 z] w fun e w' => e = .returned (.bool true) ∧ Fr No w w' := by
  obtain ⟨A, c, rfl, _⟩ := id hb
  have hce : checkE 2 0 b.length = 0 := by have := checkE_cases 2 0 b.length; omega
  have hfl := addS_flat [⟨2, 0, b, hce⟩]
  have hFl := gd_length ⟨2, 0, b, hce⟩
  rw [show [(⟨2, 0, b, hce⟩ : Gd)].flatMap Gd.b = frameB 2 0 b from by simp [Gd.b], show [(⟨2, 0, b, hce⟩ : Gd)].map Gd.q = [(2, 0, b)] from rfl] at hfl
  change (frameB 2 0 b).length ≤ 16400 at hFl
  obtain ⟨F, hF⟩ : ∃ F, frameB 2 0 b = F := ⟨_, rfl⟩
  rw [hF] at hfl hFl
  have hI : ¬ (500 : Int) < (b.length : Int) := by omega
  have HG := Aside0.mk hg; have HB := Aside0.mk hb; have HFE := Aside0.mk hF; have HFL := Aside0.mk hfl
  have hgl := hg.lt
  clear hb hg hF hfl
  go_enter Tryd.func6, Tryd.ntmps6
  go_wp2_with fail
  refine (feeds_calls _ HG.out).mono ?_
  rintro e w1 ⟨rfl, hf⟩
  have F1 := Aside0.mk hf
  have hgl1 : 0 < w1.heap.size := Nat.lt_of_lt_of_le hgl hf.size
  clear hf
  go_wp2_with fail
  refine (append_calls 2 0 (.slice A b.length c) (.slice none 0 0) b [] w1 hce (Ow.nil _ _ _) (HB.out.no F1.out) (by simp) (fun _ _ _ hb => by cases hb)).mono ?_
  rintro e w2 ⟨vf, rfl, gw⟩
  have hgo := gw.own
  rw [HFE.out, List.nil_append] at hgo
  have NF : Aside0 (Fee.On w1 w2 vf F) := ⟨(Fee.On.nil (Fr.refl _ _)).step hgo gw.fr gw.at_⟩
  clear gw hgo
  obtain ⟨Af, cf, rfl⟩ := NF.out.own.form
  have F2 : Aside0 (Fr No w w2) := ⟨F1.out.none NF.out.fr⟩
  have hcf : F.length ≤ cf := by obtain ⟨A', c', he, h1, _⟩ := NF.out.own.rd; injection he with _ _ e3; omega
  by_cases hz : z < 0 ∨ (F.length : Int) < z
  · have hz' : z < 0 ∨ (¬ z < 0 ∧ (F.length : Int) < z) := by omega
    clear hz
    rcases hz' with h1 | ⟨h1, h2⟩
    all_goals
      go_wp2
      go_ret
      exact ⟨rfl, F2.out⟩
  · obtain ⟨a, rfl⟩ := Int.eq_ofNat_of_zero_le (show 0 ≤ z by omega)
    have haF : a ≤ F.length := by omega
    have z1 : ¬ (a : Int) < 0 := by omega
    have z2 : ¬ (F.length : Int) < (a : Int) := by omega
    have hta : (F.take a).length = a := by rw [List.length_take]; omega
    have hgl2 : 0 < w2.heap.size := Nat.lt_of_lt_of_le hgl1 NF.out.fr.size
    go_upto_region 9 with fail
    have D1 : Aside0 (Fee.Fd (w2.alloc (.cells #[.slice none 0 0, .int .i64 0, .nilIface] 31)) w2.heap.size 31 [] [] (.slice none 0 0) [] 0 none) := ⟨Fd.new w2 hgl2 31 (by decide)⟩
    have FA : Aside0 (Fr No w2 (w2.alloc (.cells #[.slice none 0 0, .int .i64 0, .nilIface] 31))) := ⟨(Fr.refl _ _).alloc _⟩
    have hsz3 : (w2.alloc (.cells #[.slice none 0 0, .int .i64 0, .nilIface] 31)).heap.size = w2.heap.size + 1 := by simp
    obtain ⟨g, hgg⟩ : ∃ g, w2.heap.size = g := ⟨_, rfl⟩
    have HGG := Aside0.mk hgg
    rw [hgg] at D1 hsz3 ⊢
    change Code.wp _ _ _ _ (w2.alloc (.cells #[.slice none 0 0, .int .i64 0, .nilIface] 31))
    generalize w2.alloc (.cells #[.slice none 0 0, .int .i64 0, .nilIface] 31) = w3 at D1 FA hsz3 ⊢
    have HSZ := Aside0.mk hsz3
    clear hgg hgl2 hgl1 hsz3
    have N0 : Aside0 (Fee.On w3 (w3.alloc (.cells #[] 5)) (.slice (some ⟨w3.heap.size, 0, none⟩) 0 0) []) := ⟨own_empty w3, fun q hq => Nat.le_of_eq (by simpa [Value.ownBlock] using hq), (Fr.refl _ _).alloc _⟩
    have RT : Aside0 (RdB w3 (.slice Af a cf) (F.take a)) := ⟨rd_take (NF.out.own.rd.no FA.out) a haF⟩
    go_wp2_with (at_builtin; refine apBs (.slice (some ⟨w3.heap.size, 0, none⟩) 0 0) [] (.slice Af a cf) (F.take a) rfl (.tmp 30) (.tmp 33) rfl rfl rfl N0.out.own (RT.out.no N0.out.fr) (by rw [hta]; simp; omega) ?_; intro v1 w4 i1 i2 i3 i4; have N1 : Aside0 (Fee.On w3 w4 v1 ([] ++ F.take a)) := ⟨N0.out.step i1 i2 i3⟩; clear i1 i2 i3 i4; rw [List.nil_append] at N1)
    have h9 := add_calls (HG.out.no ((F2.out.none FA.out).none N1.out.fr)) (D1.out.no N1.out.fr) 0 rfl v1 (F.take a) N1.out.own.rd (by omega) (by rw [hta]; simp; omega)
    have hmore := addS_more (F.take a) (F.drop a)
    rw [List.take_append_drop, HFL.out] at hmore
    have hh1 : (addS [] 0 none (F.take a)).held.length ≤ 16391 := held_le _
    have hr1 : (addS [] 0 none (F.take a)).rd ≤ F.length := Nat.le_trans (addS_rd _) (by omega)
    obtain ⟨S1, hS1⟩ : ∃ S, addS [] 0 none (F.take a) = S := ⟨_, rfl⟩
    rw [hS1] at h9 hmore hh1 hr1
    obtain ⟨m1, m2, m3, m4⟩ := hmore
    have M1 := Aside0.mk m1; have M2 := Aside0.mk m2; have M3 := Aside0.mk m3; have M4 := Aside0.mk m4
    clear m1 m2 m3 m4 hS1
    refine h9.mono ?_
    clear h9
    rintro e w5 ⟨vo, v', rfl, hd, ho, hf, ha⟩
    have hg3 : g < w3.heap.size := by have := HSZ.out; omega
    have V1n : Aside0 (∀ q, v1.ownBlock = some q → w3.heap.size ≤ q ∧ q < w4.heap.size) := ⟨fun q hq => ⟨N1.out.new q hq, N1.out.own.lt q hq⟩⟩
    have V1 : Aside0 (OwB w5 v1 (F.take a)) := ⟨N1.out.own.fr hf (fun q hq hb => by
      rcases hb with hb | hb
      · have := (V1n.out q hq).1; omega
      · cases hb)⟩
    have V'n : Aside0 (∀ q, v'.ownBlock = some q → w4.heap.size ≤ q) := ⟨fun q hq => by
      rcases ha q hq with h | h
      · cases h
      · exact h⟩
    have F25 : Aside0 (Fr No w2 w5) := ⟨fs_new (FA.out.none N1.out.fr) hf (Nat.le_of_eq HGG.out) (fun q hq => by cases hq)⟩
    have D5 := Aside0.mk hd; have FO5 := Aside0.mk ho
    have h45 : w4.heap.size ≤ w5.heap.size := hf.size
    have h34 : w3.heap.size ≤ w4.heap.size := N1.out.fr.size
    obtain ⟨A1, c1, rfl⟩ := N1.out.own.form
    rw [hta] at V1 V1n ⊢
    clear hd ho hf ha N0 N1 RT
    go_wp2
    go_loopw [39] (fun v39 wr => ∃ (i : Nat) (xs : List UInt8), v39 = .int .i64 (i : Int) ∧ i ≤ a ∧ xs.length = a ∧ Aside0 (OwB wr (.slice A1 a c1) xs) ∧ Aside0 (Fr (blk (.slice A1 a c1)) w5 wr)) (fun v39 _ => a - (intOf v39).toNat)
    case atStart => exact ⟨0, F.take a, rfl, Nat.zero_le _, hta, V1, ⟨Fr.refl _ _⟩⟩
    case round =>
      obtain ⟨i, xs, rfl, hi, hxl, HO, HF⟩ := hrel
      by_cases hil : i < a
      · have hiI : (i : Int) < (a : Int) := by omega
        obtain ⟨gm, cc, he, _⟩ := HO.out.at_ (by omega)
        injection he with e1 e2 e3
        subst e1
        obtain ⟨⟨u, y1⟩, y2, y3⟩ := zero_at HO.out hxl i hil
        have Y3 := Aside0.mk y3
        clear e2 e3 y3
        go_wp2
        go_roundw
        case rel => exact ⟨i + 1, xs.set i 0, by go_num, by omega, by simp [hxl], Y3, ⟨HF.out.setCell (p := ⟨gm, i, none⟩) (.inl rfl) _⟩⟩
        case measure => simp [intOf]; omega
      · have hiI : ¬ (i : Int) < (a : Int) := by omega
        have nS : ∀ q, w4.heap.size ≤ q → ¬ blk (.slice A1 a c1) q := fun q hq hb => by have := (V1n.out q hb).2; omega
        have D6 : Aside0 (Fee.Fd wr g 31 [] [] v' S1.held S1.rd S1.er) := ⟨Fd_fr D5.out HF.out (fun hb => by have := (V1n.out g hb).1; omega) (fun q hq => nS q (V'n.out q hq)) (fun b cs hb => typed_ne V1.out hb (by decide))⟩
        have F26 : Aside0 (Fr No w2 wr) := ⟨F25.out.trans HF.out (fun q hq hb => by have := (V1n.out q hb).1; have := FA.out.size; omega)⟩
        obtain ⟨fs, hfo, hfm, hmn⟩ := FO5.out.fs
        have OF6 : Aside0 (Ow fF 39 wr vo fs) := ⟨hfo.fr HF.out (fun q hq => nS q (FO5.out.new q hq))⟩
        have MN6 : Aside0 (∀ e ∈ fs, mine wr w4.heap.size g v' e) := ⟨fun e he => (hmn e he).fr HF.out (fun q hq => nS q ((hmn e he).new q hq))⟩
        have HFM := Aside0.mk hfm
        clear hfo hfm hmn nS V1
        obtain ⟨A6, hcut, hrd6⟩ := cut_tail Af F.length cf a haF hcf
        have R6 : Aside0 (RdB wr (.slice A6 (F.length - a) (cf - a)) (F.drop a)) := ⟨hrd6 _ _ (NF.out.own.rd.no F26.out)⟩
        have hdl : (F.drop a).length = F.length - a := List.length_drop
        clear hrd6
        go_wp2_with fail
        refine (add_calls (HG.out.no (F2.out.none F26.out)) D6.out 0 rfl _ (F.drop a) R6.out (by omega) (by omega)).mono ?_
        rintro e w7 ⟨vo2, v7, rfl, hd, ho, hf, ha⟩
        rw [← M2.out, ← M3.out, ← M4.out] at hd
        have D7 := Aside0.mk hd
        obtain ⟨fs2, hfo2, hfm2, hmn2⟩ := ho.fs
        have OF7 : Aside0 (Ow fF 39 w7 vo fs) := ⟨OF6.out.fr hf (fun q hq hb => by
          rcases hb with hb | hb
          · obtain ⟨cs, h1⟩ := OF6.out.typed q hq
            obtain ⟨⟨ev, h2, _⟩, _⟩ := D6.out
            rw [hb, h2] at h1
            injection h1 with h1
            injection h1 with _ h1
            exact absurd h1 (by decide)
          · exact OF6.out.ne D6.out.own (by decide) q hq hb)⟩
        have MN7 : Aside0 (∀ e ∈ fs, OwB w7 e.dv e.xs) := ⟨fun e he => (MN6.out e he).own.fr hf (fun q hq hb => by
          rcases hb with hb | hb
          · exact (MN6.out e he).ng q hq hb
          · exact (MN6.out e he).nv q hq hb)⟩
        have F27 : Aside0 (Fr No w2 w7) := ⟨F26.out.trans hf (fun q hq hb => by
          rcases hb with hb | hb
          · have := HGG.out; omega
          · have := V'n.out q hb; have := FA.out.size; omega)⟩
        have hlen : fs.length + fs2.length = 1 := by
          have h1 := congrArg List.length HFM.out
          have h2 := congrArg List.length hfm2
          have h3 := congrArg List.length M1.out
          simp only [List.length_map, List.length_append, List.length_cons, List.length_nil] at h1 h2 h3
          omega
        have OF2 := Aside0.mk hfo2; have HFM2 := Aside0.mk hfm2; have MN2 : Aside0 (∀ e ∈ fs2, OwB w7 e.dv e.xs) := ⟨fun e he => (hmn2 e he).own⟩
        clear hd ho hf ha hfo2 hfm2 hmn2 hcut MN6
        go_wp2_with (at_builtin; refine apN (f := fF) rfl (.tmp 46) (.tmp 50) _ _ (.agg #[.int .i64 0, .int .i64 0, .slice none 0 0]) 40 rfl Tryd.underlying26 infoF rfl (by decide) (by decide) vo fs vo2 fs2 rfl rfl OF7.out OF2.out.rd (by omega) ?_; intro v9 w9 i1 i2 i3 i4; have N9 : Aside0 (Ow fF 39 w9 v9 (fs ++ fs2)) := ⟨i1⟩; have F9 : Aside0 (Fr (blk vo) w7 w9) := ⟨i2⟩; clear i1 i2 i3 i4)
        obtain ⟨e0, he0⟩ : ∃ e0, fs ++ fs2 = [e0] := List.length_eq_one_iff.1 (by rw [List.length_append]; exact hlen)
        have htri : (fs ++ fs2).map tri = ([(2, 0, b)] : List F3).map up := by rw [List.map_append, HFM.out, HFM2.out, ← List.map_append, ← M1.out]
        have MD7 : OwB w7 e0.dv e0.xs := by
          have hmem : e0 ∈ fs ++ fs2 := by rw [he0]; simp
          rcases List.mem_append.1 hmem with h | h
          · exact MN7.out e0 h
          · exact MN2.out e0 h
        rw [he0] at htri N9
        obtain ⟨k0, s0, A0, c0, xs0⟩ := e0
        have hx0 : xs0 = b := by
          simp only [List.map_cons, List.map_nil, tri, up, List.cons.injEq, Prod.mk.injEq] at htri
          exact htri.1.2.2
        subst hx0
        have MD9 : Aside0 (OwB w9 (.slice A0 xs0.length c0) xs0) := ⟨MD7.fr F9.out (fun q hq hb => MD7.ne OF7.out (by decide) q hq hb)⟩
        have D9 : Aside0 (Fee.Fd w9 g 31 [] [] v7 [] F.length none) := ⟨Fd_fr D7.out F9.out (by obtain ⟨⟨ev, h2, _⟩, _⟩ := D7.out; exact typed_ne OF7.out h2 (by decide)) (fun q hq hb => D7.out.own.ne OF7.out (by decide) q hq hb) (fun b cs hb => typed_ne OF7.out hb (by decide))⟩
        have F29 : Aside0 (Fr No w2 w9) := ⟨F27.out.trans F9.out (fun q hq hb => by have := FO5.out.new q hb; have := FA.out.size; omega)⟩
        obtain ⟨A9, c9, rfl⟩ := N9.out.form
        obtain ⟨A'', c'', he9, _, _, hc9⟩ := N9.out.rd
        injection he9 with e1 _ e3
        subst e1 e3
        obtain ⟨ad, rfl, hc⟩ := hc9 (by simp)
        have k2 : w9.cell? { block := ad.block, off := ad.off + 2 } = some (.slice A0 xs0.length c0) := hc 2 _ rfl
        have HBX : Aside0 (RdB w9 (.slice A xs0.length c) xs0) := ⟨HB.out.no (F2.out.none F29.out)⟩
        clear he0 htri MD7 hc hc9
        go_wp2
        refine Rg.start (fun _ x => Fr No w9 x) (by kernel_rfl) (by kernel_rfl) [14] [[9, 10, 4, 5, 6, 7, 8, 11, 0, 1, 2, 3, 12, 13, 14]] (by kernel_rfl) (.q 0 0 (.q 1 0 (.q 2 0 (.q 3 0 (.q 4 0 (.q 5 0 (.q 6 0 (.q 7 0 (.q 8 0 (.q 9 0 (.q 10 0 (.q 11 0 (.q 12 0 (.q 13 0 (.e 14 1 (.q 15 1 (.q 16 1 (.q 17 1 (.done))))))))))))))))))) (by kernel_rfl) ?_ ?_
        · exact fun _ => (Fr.refl _ _).drew
        repeat (first
          | (refine Rg.q (o := ?_) (v := ?_) ?_ ?_ ?_ ?_ ?_
             rotate_left 2
             · (simp only [List.getElem?_toArray, List.getElem?_cons_succ, List.getElem?_cons_zero]; rfl)
             · exact fun _ _ _ h => h
             · first | rfl | (go_simp; done)
             · (intro x_ hx; (try dsimp only at hx); (have q2 := hx.cell k2 id; have q3 := str_of_rd (MD9.out.rd.no hx); have q4 := str_of_rd (HBX.out.no hx)); go_simp; (try rw [if_neg (by omega)]); (try rw [if_pos (by omega)]); (try go_simp); try with_reducible rfl)
             try simp only [Act.put, List.setIfInBounds_toArray, List.set_cons_zero, List.set_cons_succ])
          | (refine Rg.skip (o := ?_) ?_ ?_ ?_ ?_
             rotate_left 1
             · (simp only [List.getElem?_toArray, List.getElem?_cons_succ, List.getElem?_cons_zero]; rfl)
             · exact fun _ _ _ h => h
             · first | rfl | (go_simp; done)
             try simp only [Act.put, List.setIfInBounds_toArray, List.set_cons_zero, List.set_cons_succ]))
        refine Rg.e (o := ?_) ?_ ?_
        rotate_left 1
        · (simp only [List.getElem?_toArray, List.getElem?_cons_succ, List.getElem?_cons_zero]; rfl)
        intro K hK
        rw [if_pos (by go_simp)]; go_simp
        refine (end_calls (D9.out.no (Fr.refl _ _).drew) 0 rfl (by omega) (by show 0 ≤ 1000000000; omega)).mono ?_
        rintro en x1 ⟨ev, rfl, hev, hf⟩
        have he0 : endE [] F.length none = none := rfl
        rw [he0] at hev
        obtain rfl : ev = .nilIface := hev
        have K1 : Aside0 (Fr No w9 x1) := ⟨((Fr.refl No w9).drew).none hf⟩
        clear hf
        go_simp
        refine hK.out _ _ (fun _ x => Fr No w9 x) (fun k x hk h => h) ?_ ?_
        · exact fun _ _ => K1.out
        try simp only [Act.put, List.setIfInBounds_toArray, List.set_cons_zero, List.set_cons_succ]
        repeat (first
          | (refine Rg.q (o := ?_) (v := ?_) ?_ ?_ ?_ ?_ ?_
             rotate_left 2
             · (simp only [List.getElem?_toArray, List.getElem?_cons_succ, List.getElem?_cons_zero]; rfl)
             · exact fun _ _ _ h => h
             · first | rfl | (go_simp; done)
             · (intro x_ hx; (try dsimp only at hx); (skip); go_simp; (try rw [if_neg (by omega)]); (try rw [if_pos (by omega)]); (try go_simp); try with_reducible rfl)
             try simp only [Act.put, List.setIfInBounds_toArray, List.set_cons_zero, List.set_cons_succ])
          | (refine Rg.skip (o := ?_) ?_ ?_ ?_ ?_
             rotate_left 1
             · (simp only [List.getElem?_toArray, List.getElem?_cons_succ, List.getElem?_cons_zero]; rfl)
             · exact fun _ _ _ h => h
             · first | rfl | (go_simp; done)
             try simp only [Act.put, List.setIfInBounds_toArray, List.set_cons_zero, List.set_cons_succ]))
        refine Rg.done ?_
        go_simp
        go_wp2
        go_ret
        exact ⟨rfl, (F2.out.none F29.out).none K1.out⟩
theorem walk (vb : Value) (b : List UInt8) (z : Int) (w : World) (hg : Gl w) (hb : RdB w vb b ∧ b.length ≤ reach) (hz : (Lit.int .i64 z).wf = true) : Calls Tryd.prog 6 #[vb, .int .i64 z] w fun e w' => e = .returned (.bool true) ∧ Fr No w w' := by
  by_cases h : 500 < b.length
  · exact walk_out vb b z w hg hb.1 h
  · exact walk_ok vb b z w hg hb.1 (by omega)
end Go.Proofs.YtkljeafnmcmifaaDoor.LFeedOwn
