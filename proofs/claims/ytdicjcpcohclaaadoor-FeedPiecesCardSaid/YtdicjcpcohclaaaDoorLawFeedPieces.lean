/- The walk of the law FeedPieces. -/
import Derived.Test.YtdicjcpcohclaaaDoorFeedL
import Derived.Test.YtdicjcpcohclaaaDoorRef5
import Derived.Test.YtdicjcpcohclaaaDoorVs
import Derived.Test.YtdicjcpcohclaaaDoorIx
import Derived.OpenShut
set_option linter.unusedVariables false
set_option linter.unusedSimpArgs false
namespace Go.Proofs.YtdicjcpcohclaaaDoor.LFeedPieces
open Go.RowKit Go.IntWalk Go.Proofs.YtdicjcpcohclaaaDoorW.PrintWords Go.Proofs.YtdicjcpcohclaaaDoor.B Go.Proofs.YtdicjcpcohclaaaDoor.PB Go.Proofs.YtdicjcpcohclaaaDoor.Err Go.Proofs.YtdicjcpcohclaaaDoor.SCode Go.Proofs.YtdicjcpcohclaaaDoor.Frm Go.Proofs.YtdicjcpcohclaaaDoor.Ref4 Go.Proofs.YtdicjcpcohclaaaDoor.Ref5 Go.Proofs.YtdicjcpcohclaaaDoor.Fee

theorem walk_out (vp : Value) (ps : List (List UInt8)) (w : World) (hg : Gl w) (hp : RdV w vp ps) (h : 60 < ps.length) : Calls Tryd.prog 11 #[vp] w fun e w' => e = .returned (.bool true) ∧ Fr No w w' := by
  obtain ⟨A, c, rfl, _⟩ := hp.form
  have hI : (60 : Int) < (ps.length : Int) := by omega
  have HG := Aside0.mk hg
  clear hp hg
  go_enter Tryd.func11, Tryd.ntmps11
  go_wp2_with fail
  refine (feeds_calls _ HG.out).mono ?_
  rintro e w1 ⟨rfl, hf⟩
  have F1 := Aside0.mk hf; clear hf
  go_wp2
  go_ret
  exact ⟨rfl, F1.out⟩

/-- What is known at a round's head. -/
structure Ps (P held : List UInt8) (rd : Nat) (er : Option (Nat × Nat)) (L : List F3) (ov : Bool) (j : Nat) : Prop where
  len : rd + held.length ≤ 3000 * j
  no : ov = false → er = none ∧ parse P = (L, rd, none) ∧ held = P.drop rd ∧ P.length ≤ 3000 * j ∧ rd ≤ P.length ∧ L.length ≤ P.length
  yes : ov = true → ∃ q, er = some q
/-- Add on what is not over: what the document says of all bytes so far. -/
theorem add_next {P held p : List UInt8} {rd : Nat} {L : List F3} (h : parse P = (L, rd, none)) (hh : held = P.drop rd) :
    parse (P ++ p) = (L ++ (parse (held ++ p)).1, rd + (parse (held ++ p)).2.1, (parse (held ++ p)).2.2.map fun q => (rd + q.1, q.2)) := by
  have := parse_more P p (by rw [h])
  rw [h] at this
  rw [this, hh]

set_option maxHeartbeats 8000000 in
set_option maxRecDepth 100000 in
theorem walk_ok (vp : Value) (ps : List (List UInt8)) (w : World) (hg : Gl w) (hp : RdV w vp ps) (h : ps.length ≤ 60) : Calls Tryd.prog 11 #[vp] w fun e w' => e = .returned (.bool true) ∧ Fr No w w' := by
  obtain ⟨A, c, rfl, _⟩ := hp.form
  have hI : ¬ (60 : Int) < (ps.length : Int) := by omega
  have HG := Aside0.mk hg; have HP := Aside0.mk hp
  have hgl := hg.lt
  clear hp hg
  go_enter Tryd.func11, Tryd.ntmps11
  go_wp2_with fail
  refine (feeds_calls _ HG.out).mono ?_
  rintro e w1 ⟨rfl, hf⟩
  have F1 := Aside0.mk hf
  have hgl1 : 0 < w1.heap.size := Nat.lt_of_lt_of_le hgl hf.size
  clear hf
  go_wp2
  have D1 : Aside0 (Fee.Fd (w1.alloc (.cells #[.slice none 0 0, .int .i64 0, .nilIface] 75)) w1.heap.size 75 [] [] (.slice none 0 0) [] 0 none) := ⟨Fd.new w1 hgl1 75 (by decide)⟩
  have FA : Aside0 (Fr No w (w1.alloc (.cells #[.slice none 0 0, .int .i64 0, .nilIface] 75))) := ⟨F1.out.alloc _⟩
  obtain ⟨g, hgg⟩ : ∃ g, w1.heap.size = g := ⟨_, rfl⟩
  rw [hgg] at D1 ⊢
  have HS : Aside0 (w.heap.size ≤ g) := ⟨by rw [← hgg]; exact F1.out.size⟩
  change Code.wp _ _ _ _ (w1.alloc (.cells #[.slice none 0 0, .int .i64 0, .nilIface] 75))
  generalize w1.alloc (.cells #[.slice none 0 0, .int .i64 0, .nilIface] 75) = w2 at D1 FA ⊢
  clear hgg hgl1
  go_loopw [4, 5, 6, 23] (fun v4 v5 v6 v23 wr => ∃ (j : Nat) (P held : List UInt8) (rd : Nat) (er : Option (Nat × Nat)) (L : List F3) (ov : Bool) (v : Value), v23 = .int .i64 (j : Int) ∧ v4 = .string (bstr P) ∧ v5 = .int .i64 (L.length : Int) ∧ v6 = .bool ov ∧ j ≤ ps.length ∧
    Aside0 (Ps P held rd er L ov j) ∧ Aside0 (Fee.Fd wr g 75 [] [] v held rd er) ∧ Aside0 (∀ q, v.ownBlock = some q → w.heap.size ≤ q) ∧ Aside0 (Fr No w wr)) (fun _ _ _ v23 _ => ps.length - (intOf v23).toNat)
  case atStart => exact ⟨0, [], [], 0, none, [], false, _, rfl, rfl, rfl, rfl, Nat.zero_le _, ⟨⟨Nat.le_refl _, fun _ => ⟨rfl, parse_nil, rfl, Nat.le_refl _, Nat.le_refl _, Nat.le_refl _⟩, fun h => by cases h⟩⟩, D1, ⟨fun q hq => by cases hq⟩, FA⟩
  case round =>
    obtain ⟨j, P, held, rd, er, L, ov, v, rfl, rfl, rfl, rfl, hj, HPS, HFd, HN, HF⟩ := hrel
    by_cases hjl : j < ps.length
    · have hjI : (j : Int) < (ps.length : Int) := by omega
      obtain ⟨ad, A', c', rfl, hcell0, hrd0⟩ := HP.out.at_ j hjl
      have hcell := HF.out.cell hcell0 id
      obtain ⟨p, hpp⟩ : ∃ p, ps.getD j [] = p := ⟨_, rfl⟩
      rw [hpp] at hcell hrd0
      have HRD0 := Aside0.mk hrd0
      have HRD := Aside0.mk (hrd0.no HF.out)
      clear hrd0 hpp hcell0
      by_cases hpl : 3000 < p.length
      · have hplI : (3000 : Int) < (p.length : Int) := by omega
        go_wp2
        go_ret
        exact ⟨rfl, HF.out⟩
      · have hplI : ¬ (3000 : Int) < (p.length : Int) := by omega
        have hlen := HPS.out.len
        go_wp2_with fail
        refine (add_calls (HG.out.no HF.out) HFd.out 0 rfl _ p HRD.out (by omega) (by omega)).mono ?_
        rintro e w3 ⟨vo, v', rfl, hd, ho, hf, ha⟩
        have HD := Aside0.mk hd; have HO := Aside0.mk ho
        have F3 : Aside0 (Fr No w w3) := ⟨fs_new HF.out hf HS.out HN.out⟩
        have N3 : Aside0 (∀ q, v'.ownBlock = some q → w.heap.size ≤ q) := ⟨aw_new HF.out.size HN.out ha⟩
        have R3 : Aside0 (RdB w3 (.slice A' p.length c') p) := ⟨HRD0.out.no F3.out⟩
        clear hd ho hf ha hcell
        cases ov with
        | true =>
          obtain ⟨q, rfl⟩ := HPS.out.yes rfl
          obtain ⟨fs, hfo, hfm, _⟩ := HO.out.fs
          obtain ⟨A2, c2, rfl⟩ := hfo.form
          have hfl : fs.length = 0 := by have := congrArg List.length hfm; simpa [addS] using this
          rw [hfl]
          clear hfo hfm hfl
          go_wp2
          go_roundw
          case rel => exact ⟨j + 1, P, held, rd, some q, L, true, v', by go_num, rfl, rfl, rfl, by omega, ⟨⟨by omega, fun h => (by cases h), fun _ => ⟨q, rfl⟩⟩⟩, HD, N3, F3⟩
          case measure => simp [intOf]; omega
        | false =>
          obtain ⟨rfl, hparse, hheld, hPl, hrl, hLl⟩ := HPS.out.no rfl
          have hnext := add_next (p := p) hparse hheld
          have hadd : addS held rd none p = (match (parse (held ++ p)).2.2 with
            | some q => ⟨(parse (held ++ p)).1, [], rd + (parse (held ++ p)).2.1, some (rd + q.1, q.2)⟩
            | none => ⟨(parse (held ++ p)).1, (held ++ p).drop (parse (held ++ p)).2.1, rd + (parse (held ++ p)).2.1, none⟩) := rfl
          have hple := parse_le (held ++ p)
          have hppos := parse_pos (held ++ p)
          have hheldl : held.length = P.length - rd := by rw [hheld, List.length_drop]
          have hLn : (parse (held ++ p)).1.length ≤ (held ++ p).length := Nat.le_trans (parse_len _) (parse_le _)
          obtain ⟨⟨L', n', er'⟩, hpa⟩ : ∃ q, parse (held ++ p) = q := ⟨_, rfl⟩
          rw [hpa] at hnext hadd hple hppos hLn
          dsimp only at hnext hadd hple hppos hLn
          rw [List.length_append] at hple hLn
          have HNX := Aside0.mk hnext; have HAD := Aside0.mk hadd; have HPO := Aside0.mk hppos
          clear hnext hadd hppos hpa
          obtain ⟨fs, hfo, hfm, hmine⟩ := HO.out.fs
          have hout : (addS held rd none p).out = L' := by rw [HAD.out]; cases er' <;> rfl
          have hrd3 : (addS held rd none p).rd = rd + n' := by rw [HAD.out]; cases er' <;> rfl
          rw [hout] at hfm
          have hfl : fs.length = L'.length := by have := congrArg List.length hfm; simpa using this
          obtain ⟨A2, c2, rfl⟩ := hfo.form
          have HFO := Aside0.mk hfo; have HFM := Aside0.mk hfm; have HMN := Aside0.mk hmine; have HFL := Aside0.mk hfl
          rw [hfl]
          have hstr := str_of_rd R3.out
          clear hfo hfm hmine hfl hout hparse hheld
          go_wp2_with fail
          refine (all_calls (P ++ p) w3 (by rw [List.length_append]; omega)).mono ?_
          rw [HNX.out]
          dsimp only
          rintro e w4 ⟨vq, rfl, hq, _, hf4⟩
          have HQ := Aside0.mk hq; have F4 : Aside0 (Fr No w3 w4) := ⟨hf4⟩
          have D4 := Aside0.mk (HD.out.no hf4)
          obtain ⟨A5, c5, rfl⟩ := hq.form
          clear hq hf4 hstr
          go_wp2_with fail
          refine (read_calls D4.out 0 rfl).mono ?_
          rintro e x1 ⟨rfl, rfl⟩
          rw [hrd3]
          go_wp2_with fail
          refine (err_calls D4.out 0 rfl).mono ?_
          rintro e x1 ⟨ev, rfl, hev, rfl⟩
          have HEV := Aside0.mk hev
          clear hev
          go_wp2_with fail
          refine (number_calls ((HG.out.no F3.out).no F4.out) HEV.out).mono ?_
          have her : (addS held rd none p).er = er'.map fun q => (rd + q.1, q.2) := by rw [HAD.out]; cases er' <;> rfl
          rw [her, show ∀ e, noE e = oc e from fun _ => rfl]
          have HER := Aside0.mk her
          rintro e w5 ⟨rfl, hf⟩
          have F5 : Aside0 (Fr No w3 w5) := ⟨F4.out.none hf⟩
          have F45 : Aside0 (Fr No w4 w5) := ⟨hf⟩
          clear hf her
          go_wp2
          obtain ⟨wo, hwo⟩ : ∃ wo, wo = wr := ⟨_, rfl⟩
          subst hwo
          go_loopw [67] (fun v67 wq => ∃ i : Nat, v67 = .int .i64 (i : Int) ∧ i ≤ L'.length ∧ Aside0 (Fr No w5 wq)) (fun v67 _ => L'.length - (intOf v67).toNat)
          case atStart => exact ⟨0, rfl, Nat.zero_le _, ⟨Fr.refl _ _⟩⟩
          case round =>
            obtain ⟨i, rfl, hi, HFi⟩ := hrel
            by_cases hil : i < L'.length
            · have hiI : (i : Int) < (L'.length : Int) := by omega
              obtain ⟨⟨fk, fs1, D, cD, xs⟩, hfi⟩ : ∃ f, fs[i]? = some f := ⟨_, List.getElem?_eq_getElem (by have := HFL.out; omega)⟩
              obtain ⟨⟨qk, qs, qx⟩, hqi⟩ : ∃ q, L'[i]? = some q := ⟨_, List.getElem?_eq_getElem hil⟩
              have htu : tri ⟨fk, fs1, D, cD, xs⟩ = up (qk, qs, qx) := by
                have h1 := congrArg (·[i]?) HFM.out
                simp only [List.getElem?_map, hfi, hqi, Option.map_some] at h1
                exact Option.some.inj h1
              obtain ⟨rfl, rfl, rfl⟩ : fk = (qk : Int) ∧ fs1 = (qs : Int) ∧ xs = qx := by simpa [tri, up] using htu
              have hmn := HMN.out _ (List.mem_of_getElem? hfi)
              obtain ⟨ad2, hA2, hcv⟩ := rd_elem HFO.out.rd i _ hfi
              have hqj : (L ++ L')[L.length + i]? = some (qk, qs, xs) := by rw [List.getElem?_append_right (by omega), Nat.add_sub_cancel_left]; exact hqi
              obtain ⟨ad5, hA5, hcq⟩ := rd_elem HQ.out.rd (L.length + i) _ hqj
              have FA := F5.out.none HFi.out
              have LD : ∀ x, Fr No wr x → (loadVar 59 (ad2.add (i * 3))).run Tryd.prog x = .ok (.agg #[.int .i64 (qk : Int), .int .i64 (qs : Int), .slice D xs.length cD]) x := ld_elem (hcv.no FA) Tryd.underlying59 rfl (by kernel_rfl)
              have LQ0 : ∀ x, Fr No w4 x → (loadVar 63 (ad5.add ((L.length + i) * 3))).run Tryd.prog x = .ok (.agg #[.int .i64 (qk : Int), .int .i64 (qs : Int), .string (bstr xs)]) x := ld_elem hcq Tryd.underlying63 rfl (by kernel_rfl)
              have RX := Aside0.mk (hmn.own.rd.no FA)
              have HLQ := Aside0.mk LQ0
              have HA2 := Aside0.mk hA2; have HA5 := Aside0.mk hA5
              clear hfi hqi htu hmn hcv hqj hcq LQ0 hA2 hA5
              go_upto_region 25 with (first
                | (refine lsIx 76 59 3 (.tmp 65) (.tmp 67) ad2 A2 L'.length c2 i _ Tryd.underlying76 (by kernel_rfl) rfl rfl rfl HA2.out rfl rfl hil ?_)
                | (refine ldG (.tmp 70) 59 _ _ rfl rfl (LD _ (Fr.refl _ _)) (by first | rfl | (go_simp; done)) ?_))
              change Code.wp _ _ _ _ (wr.alloc (.cells #[.int .i64 (qk : Int), .int .i64 (qs : Int), .slice D xs.length cD] 59))
              have XB : Aside0 ((wr.alloc (.cells #[.int .i64 (qk : Int), .int .i64 (qs : Int), .slice D xs.length cD] 59)).heap[wr.heap.size]? = some (.cells #[.int .i64 (qk : Int), .int .i64 (qs : Int), .slice D xs.length cD] 59 (0, 0))) := ⟨heap_alloc_new wr _⟩
              have XF : Aside0 (Fr No wr (wr.alloc (.cells #[.int .i64 (qk : Int), .int .i64 (qs : Int), .slice D xs.length cD] 59))) := ⟨(Fr.refl _ _).alloc _⟩
              generalize wr.alloc (.cells #[.int .i64 (qk : Int), .int .i64 (qs : Int), .slice D xs.length cD] 59) = wf at XB XF ⊢
              have FD : Aside0 (Fr No wf wf.drew) := ⟨(Fr.refl _ _).drew⟩
              have LA := ld_all (P := Tryd.prog) (ty := 59) XB.out Tryd.underlying59 rfl (by kernel_rfl)
              have LQ : ∀ x, Fr No wf x → _ := fun x hx => HLQ.out x ((((F45.out).none HFi.out).none XF.out).none hx)
              have hsm : IntKind.i64.wrap ((L.length : Int) + (i : Int)) = (L.length : Int) + (i : Int) := by rw [i64_left]; exact wrap64_in _ (by omega)
              clear LD
              refine Rg.start (fun _ x => Fr No wf x) (by kernel_rfl) (by kernel_rfl) [1] [[0, 1]] (by kernel_rfl) (.q 0 0 (.q 2 1 (.q 3 1 (.q 4 1 (.q 5 1 (.q 6 1 (.q 7 1 (.e 1 1 (.q 8 1 (.done)))))))))) (by kernel_rfl) ?_ ?_
              · exact fun _ => FD.out
              repeat (first
                | (refine Rg.q (o := ?_) (v := ?_) ?_ ?_ ?_ ?_ ?_
                   rotate_left 2
                   · (simp only [List.getElem?_toArray, List.getElem?_cons_succ, List.getElem?_cons_zero]; rfl)
                   · exact fun _ _ _ h => h
                   · first | rfl | (go_simp; done)
                   · (intro x_ hx; (try dsimp only at hx); first | (refine (ex_ix 78 63 3 (.tmp 74) (.tmp 77) ad5 A5 (L.length + L'.length) c5 (L.length + i) _ Tryd.underlying78 (by kernel_rfl) rfl rfl HA5.out rfl (by first|rfl|omega) (by omega)).trans ?_; with_reducible rfl) | (first|(refine (ex_ld rfl rfl (LA _ hx)).trans ?_; with_reducible rfl)|(refine (ex_ld rfl rfl (LQ _ hx)).trans ?_; with_reducible rfl)) | (skip; (try clear hx); go_simp; (try rw [if_neg (by omega)]); (try rw [if_pos (by omega)]); (try go_simp); try with_reducible rfl))
                   try simp only [Act.put, List.setIfInBounds_toArray, List.set_cons_zero, List.set_cons_succ])
                | (refine Rg.skip (o := ?_) ?_ ?_ ?_ ?_
                   rotate_left 1
                   · (simp only [List.getElem?_toArray, List.getElem?_cons_succ, List.getElem?_cons_zero]; rfl)
                   · exact fun _ _ _ h => h
                   · first | rfl | (go_simp; done)
                   try simp only [Act.put, List.setIfInBounds_toArray, List.set_cons_zero, List.set_cons_succ]))
              refine Rg.e (o := ?_) ?_ ?_
              rotate_left 1
              · (simp only [List.getElem?_toArray, List.getElem?_cons_succ, List.getElem?_cons_zero]; rfl)
              intro K hK
              go_simp
              refine (plain5_calls qk qs _ xs wf.drew (RX.out.no (XF.out.none FD.out))).mono ?_
              rintro en x1 ⟨rfl, hf⟩
              have G1 : Aside0 (Fr No wf x1) := ⟨FD.out.none hf⟩
              clear hf
              go_simp
              refine hK.out _ _ (fun _ x => Fr No wf x) (fun k x hk h => h) ?_ ?_
              · exact fun _ _ => G1.out
              try simp only [Act.put, List.setIfInBounds_toArray, List.set_cons_zero, List.set_cons_succ]
              repeat (first
                | (refine Rg.q (o := ?_) (v := ?_) ?_ ?_ ?_ ?_ ?_
                   rotate_left 2
                   · (simp only [List.getElem?_toArray, List.getElem?_cons_succ, List.getElem?_cons_zero]; rfl)
                   · exact fun _ _ _ h => h
                   · first | rfl | (go_simp; done)
                   · (intro x_ hx; (try dsimp only at hx); (skip); go_simp; (try rw [if_neg (by omega)]); (try rw [if_pos (by omega)]); (try go_simp); try with_reducible rfl)
                   try simp only [Act.put, List.setIfInBounds_toArray, List.set_cons_zero, List.set_cons_succ])
                | (refine Rg.skip (o := ?_) ?_ ?_ ?_ ?_
                   rotate_left 1
                   · (simp only [List.getElem?_toArray, List.getElem?_cons_succ, List.getElem?_cons_zero]; rfl)
                   · exact fun _ _ _ h => h
                   · first | rfl | (go_simp; done)
                   try simp only [Act.put, List.setIfInBounds_toArray, List.set_cons_zero, List.set_cons_succ]))
              refine Rg.done ?_
              go_simp
              clear LA LQ
              go_wp2
              go_roundw
              case rel => exact ⟨i + 1, by go_num, by omega, ⟨(HFi.out.none XF.out).none G1.out⟩⟩
              case measure => simp [intOf]; omega
            · have hiI : ¬ (i : Int) < (L'.length : Int) := by omega
              have FZ : Aside0 (Fr No w3 wr) := ⟨F5.out.none HFi.out⟩
              have hLL : (L ++ L').length = L.length + L'.length := List.length_append
              have hPP : (P ++ p).length = P.length + p.length := List.length_append
              rcases er' with _ | ⟨q1, q2⟩
              · rw [show oc (Option.map (fun q : Nat × Nat => (rd + q.1, q.2)) none) = 0 from rfl]
                have had := HAD.out
                dsimp only at had
                have hz : ((addS held rd none p).held.length : Int) = (P.length : Int) + (p.length : Int) - ((rd : Int) + (n' : Int)) := by
                  rw [had, List.length_drop, List.length_append]; omega
                have HZ := Aside0.mk hz
                have HAD' := Aside0.mk had
                clear hz had
                go_wp2_with fail
                refine (held_calls (HD.out.no FZ.out) 0 rfl).mono ?_
                rw [HZ.out]
                rintro en x2 ⟨rfl, rfl⟩
                go_wp2
                go_roundw
                case rel =>
                  have hD := HD.out
                  rw [HAD'.out] at hD
                  dsimp only at hD
                  refine ⟨j + 1, P ++ p, _, rd + n', none, L ++ L', false, v', by go_num, rfl, by rw [hLL]; go_num, rfl, by omega, ⟨⟨?_, fun _ => ⟨rfl, ?_, ?_, by omega, by omega, by have h9 := parse_len (P ++ p); rw [HNX.out] at h9; dsimp only at h9; omega⟩, fun h => (by cases h)⟩⟩, ⟨hD.no FZ.out⟩, N3, ⟨F3.out.none FZ.out⟩⟩
                  · rw [List.length_drop, List.length_append]; omega
                  · have := HNX.out; simpa using this
                  · have hh := (HPS.out.no rfl).2.2.1
                    rw [hh, ← List.drop_append_of_le_length (by omega), List.drop_drop]
                case measure => simp [intOf]; omega
              · rw [show oc (Option.map (fun q : Nat × Nat => (rd + q.1, q.2)) (some (q1, q2))) = q2 from rfl, show op (Option.map (fun q : Nat × Nat => (rd + q.1, q.2)) (some (q1, q2))) = rd + q1 from rfl]
                have hq0 : 0 < q2 := HPO.out _ rfl
                have hqB : ((q2 : Int) != 0) = true := by rw [bne_iff_ne]; omega
                have had := HAD.out
                dsimp only at had
                have hz : (addS held rd none p).held.length = 0 := by rw [had]; rfl
                have hE : (addS held rd none p).er = some (rd + q1, q2) := by rw [had]
                have HZ := Aside0.mk hz; have HE := Aside0.mk hE; have HAD' := Aside0.mk had
                clear hz hE had hq0
                go_wp2_with fail
                refine (err_calls (HD.out.no FZ.out) 0 rfl).mono ?_
                rw [HE.out]
                rintro en x2 ⟨ev2, rfl, hev2, rfl⟩
                have HE2 := Aside0.mk hev2
                clear hev2
                go_wp2_with fail
                refine (place_calls ((HG.out.no F3.out).no FZ.out) HE2.out).mono ?_
                rw [show plE (some (rd + q1, q2)) = ((rd + q1 : Nat) : Int) from rfl]
                rintro en w7 ⟨rfl, hf⟩
                have F7 : Aside0 (Fr No w3 w7) := ⟨FZ.out.none hf⟩
                clear hf
                go_wp2_with fail
                refine (held_calls (HD.out.no F7.out) 0 rfl).mono ?_
                rw [HZ.out]
                rintro en x2 ⟨rfl, rfl⟩
                go_wp2
                go_roundw
                case rel =>
                  have hD := HD.out
                  rw [HAD'.out] at hD
                  dsimp only at hD
                  have hlz : rd + n' + ([] : List UInt8).length ≤ 3000 * (j + 1) := by
                    rw [List.length_nil]
                    have a1 : n' ≤ held.length + p.length := hple
                    have a2 : p.length ≤ 3000 := by omega
                    have a3 : rd + held.length ≤ 3000 * j := hlen
                    clear hplI hpl hLn hple hlen hheldl hPl hrl hLl
                    omega
                  exact ⟨j + 1, P ++ p, [], rd + n', some (rd + q1, q2), L ++ L', true, v', by go_num, rfl, by rw [hLL]; go_num, rfl, by omega, ⟨⟨hlz, fun h => (by cases h), fun _ => ⟨_, rfl⟩⟩⟩, ⟨hD.no F7.out⟩, N3, ⟨F3.out.none F7.out⟩⟩
                case measure => simp [intOf]; omega
    · have hjI : ¬ (j : Int) < (ps.length : Int) := by omega
      go_wp2
      go_ret
      exact ⟨rfl, HF.out⟩
theorem walk (vp : Value) (ps : List (List UInt8)) (w : World) (hg : Gl w) (hp : RdV w vp ps) : Calls Tryd.prog 11 #[vp] w fun e w' => e = .returned (.bool true) ∧ Fr No w w' := by
  by_cases h : ps.length ≤ 60
  · exact walk_ok vp ps w hg hp h
  · exact walk_out vp ps w hg hp (by omega)
end Go.Proofs.YtdicjcpcohclaaaDoor.LFeedPieces
