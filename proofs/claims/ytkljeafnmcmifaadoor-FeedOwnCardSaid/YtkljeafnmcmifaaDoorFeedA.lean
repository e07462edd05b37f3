/- feed.Feed: Add: walked. -/
import Derived.Test.YtkljeafnmcmifaaDoorFeed
import Derived.Test.YtkljeafnmcmifaaDoorRowS
import Derived.Test.YtkljeafnmcmifaaDoorLd
import Derived.Test.YtkljeafnmcmifaaDoorRegion
set_option linter.unusedVariables false
set_option linter.unusedSimpArgs false
namespace Go.Proofs.YtkljeafnmcmifaaDoor.Fee
open Go.RowKit Go.IntWalk Go.Proofs.YtkljeafnmcmifaaDoorW.PrintWords Go.Proofs.YtkljeafnmcmifaaDoor.B Go.Proofs.YtkljeafnmcmifaaDoor.PB Go.Proofs.YtkljeafnmcmifaaDoor.Err Go.Proofs.YtkljeafnmcmifaaDoor.SCode Go.Proofs.YtkljeafnmcmifaaDoor.Frm

/-- What Add makes of a feed: the frames, and the feed behind it. -/
structure AddR where
  out : List F3
  held : List UInt8
  rd : Nat
  er : Option (Nat × Nat)
deriving DecidableEq
def addS (held : List UInt8) (rd : Nat) (er : Option (Nat × Nat)) (b : List UInt8) : AddR := match er with
  | some q => ⟨[], held, rd, some q⟩
  | none => match (parse (held ++ b)).2.2 with
    | some q => ⟨(parse (held ++ b)).1, [], rd + (parse (held ++ b)).2.1, some (rd + q.1, q.2)⟩
    | none => ⟨(parse (held ++ b)).1, (held ++ b).drop (parse (held ++ b)).2.1, rd + (parse (held ++ b)).2.1, none⟩
def tri (e : FV) : Int × Int × List UInt8 := (e.k, e.s, e.xs)
def up (q : F3) : Int × Int × List UInt8 := ((q.1 : Int), (q.2.1 : Int), q.2.2)
/-- A frame that was made: its data are read, and lie apart. -/
structure mine (w : World) (n g : Nat) (v : Value) (e : FV) : Prop where
  own : OwB w e.dv e.xs
  new : ∀ q, e.dv.ownBlock = some q → n ≤ q
  lt : ∀ q, e.dv.ownBlock = some q → q < w.heap.size
  ng : ∀ q, e.dv.ownBlock = some q → q ≠ g
  nv : ∀ q, e.dv.ownBlock = some q → v.ownBlock ≠ some q
/-- The frames that were made. -/
structure Fo (w : World) (n g : Nat) (v vo : Value) (L : List F3) : Prop where
  fs : ∃ fs : List FV, Ow fF 39 w vo fs ∧ fs.map tri = L.map up ∧ ∀ e ∈ fs, mine w n g v e
  new : ∀ q, vo.ownBlock = some q → n ≤ q
def lenC : Option Value → Nat
  | some (.slice _ n _) => n
  | _ => 0

theorem mine.fr {S : Nat → Prop} {w w' : World} {n g : Nat} {v : Value} {e : FV} (h : mine w n g v e) (k : Fr S w w') (hs : ∀ q, e.dv.ownBlock = some q → ¬ S q) : mine w' n g v e :=
  ⟨h.own.fr k hs, h.new, fun q hq => Nat.lt_of_lt_of_le (h.lt q hq) k.size, h.ng, h.nv⟩
theorem Fo.no {w w' : World} {n g : Nat} {v vo : Value} {L : List F3} (h : Fo w n g v vo L) (k : Fr No w w') : Fo w' n g v vo L := by
  obtain ⟨⟨fs, h1, h2, h3⟩, h4⟩ := h
  exact ⟨⟨fs, h1.no k, h2, fun e he => (h3 e he).fr k (fun _ _ => id)⟩, h4⟩
theorem infoF : (Tryd.prog.info? 39).map (fun i => (i.zero, i.size, i.bytes)) = some (some (.agg #[.int .i64 0, .int .i64 0, .slice none 0 0]), 3, 40) := by kernel_rfl
/-- What has become of a row: its block, a new one, or none. -/
def Aw (w : World) (v v' : Value) : Prop := ∀ q, v'.ownBlock = some q → v.ownBlock = some q ∨ w.heap.size ≤ q
theorem Aw.of {w : World} {v v' : Value} (h : At w v v') : Aw w v v' := fun q hq => by
  rcases h with h | ⟨b, h1, h2⟩
  · exact .inl (h.symm.trans hq)
  · rw [hq] at h1; injection h1 with h1; exact .inr (by omega)
theorem Fo.put {w w' : World} {n g : Nat} {v vo : Value} {L : List F3} {cs : Array Value} {t : TypeId} (h : Fo w n g v vo L) (hg : w.heap[g]? = some (.cells cs t (0, 0))) (ht : t ≠ 39) (k : Fr (one g) w w') : Fo w' n g v vo L := by
  obtain ⟨⟨fs, h1, h2, h3⟩, h4⟩ := h
  refine ⟨⟨fs, h1.fr k (fun q hq hb => ?_), h2, fun e he => (h3 e he).fr k (fun q h5 hb => (h3 e he).ng q h5 hb)⟩, h4⟩
  have e' : q = g := hb
  obtain ⟨cs', hb'⟩ := h1.typed q hq
  rw [e', hg] at hb'
  injection hb' with hb'
  injection hb' with _ e2
  exact ht e2
theorem Fo.turn {w : World} {n g : Nat} {v v' vo : Value} {L : List F3} (h : Fo w n g v vo L) (hv : ∀ q, v'.ownBlock = some q → v.ownBlock = some q ∨ w.heap.size ≤ q) : Fo w n g v' vo L := by
  obtain ⟨⟨fs, h1, h2, h3⟩, h4⟩ := h
  refine ⟨⟨fs, h1, h2, fun e he => ⟨(h3 e he).own, (h3 e he).new, (h3 e he).lt, (h3 e he).ng, fun q hq hb => ?_⟩⟩, h4⟩
  rcases hv q hb with h5 | h5
  · exact (h3 e he).nv q hq h5
  · have := (h3 e he).lt q hq; omega
theorem add_over {w : World} {g : Nat} {t : TypeId} {pre post : List Value} {v : Value} {held : List UInt8} {rd : Nat} {q : Nat × Nat} (h : Fd w g t pre post v held rd (some q)) (o : Nat) (ho : pre.length = o) (vb : Value) :
    Calls Tryd.prog 8 #[.pointer (some ⟨g, o, none⟩), vb] w fun e w' => e = .returned (.slice none 0 0) ∧ w = w' := by
  obtain ⟨ev, _, he, c0, c1, c2, f0, f1, f2, hl⟩ := h.open_ o ho
  obtain ⟨b, rfl, hb⟩ := he
  clear h hb
  go_enter Tryd.func8, Tryd.ntmps8
  go_wp2
  go_ret
  exact ⟨rfl, rfl⟩

set_option maxHeartbeats 8000000 in
set_option maxRecDepth 100000 in
theorem add_ok {w : World} {g : Nat} {t : TypeId} {pre post : List Value} {v : Value} {held : List UInt8} {rd : Nat} (hg : Gl w) (hf : Fd w g t pre post v held rd none) (o : Nat) (ho : pre.length = o) (vb : Value) (b : List UInt8) (hb : RdB w vb b) (h1 : rd ≤ 1000000000) (h2 : held.length + b.length ≤ 1000000000) :
    Calls Tryd.prog 8 #[.pointer (some ⟨g, o, none⟩), vb] w fun e w' => ∃ vo v', e = .returned vo ∧ Fd w' g t pre post v' (addS held rd none b).held (addS held rd none b).rd (addS held rd none b).er ∧ Fo w' w.heap.size g v' vo (addS held rd none b).out ∧ Fr (Fs g v) w w' ∧ Aw w v v' := by
  obtain ⟨ev, hc, he, c0, c1, c2, f0, f1, f2, hl⟩ := hf.open_ o ho
  obtain rfl : ev = .nilIface := he
  obtain ⟨A, c, rfl, _⟩ := id hb
  obtain ⟨B, hB⟩ : ∃ B, held ++ b = B := ⟨_, rfl⟩
  have hBl : B.length = held.length + b.length := by rw [← hB, List.length_append]
  obtain ⟨res, hres⟩ : ∃ res, addS held rd none b = res := ⟨_, rfl⟩
  rw [hres]
  unfold addS at hres
  dsimp only at hres
  rw [hB] at hres
  have HO := Aside0.mk hf.own; have HB := Aside0.mk hb; have HC := Aside0.mk hc; have HRES := Aside0.mk hres; have HT := Aside0.mk hf.ty; have HAP := Aside0.mk hf.apart
  have HBB := Aside0.mk hB
  have HG := Aside0.mk hg; have HG0 := Aside0.mk hf.g0; have HV0 := Aside0.mk hf.v0
  clear hf hb hc hres hB hg
  go_enter Tryd.func8, Tryd.ntmps8
  go_wp2_with (at_builtin; refine apBs v held (.slice A b.length c) b rfl (.tmp 18) (.tmp 19) rfl rfl rfl HO.out HB.out ?d2 ?_; (case d2 => omega); intro v1 w1 i1 i2 i3 i4; have I1 := Aside0.mk i1; have I2 := Aside0.mk i2; have I3 := Aside0.mk i3; have k1 : w1.cell? ⟨g, o, Option.none⟩ = some v := (i2.cell c0 (fun hb => HAP.out hb)); have k2 : w1.frozen? ⟨g, o, Option.none⟩ = false := (blk_frozen (i2.heap HC.out (fun hb => HAP.out hb)) _); have i5 := i1.form; obtain ⟨A1, cc1, rfl⟩ := i5; clear i1 i2 i3 i4)
  have hBl' : (held ++ b).length = held.length + b.length := List.length_append
  rw [hBl'] at I1 I3
  rw [HBB.out] at I1
  rw [← hBl]
  rw [← hBl] at I1 I3
  obtain ⟨vh0, hvh0⟩ : ∃ vh0, Value.slice A1 B.length cc1 = vh0 := ⟨_, rfl⟩
  rw [hvh0] at I1 I3 ⊢
  have ng : ¬ blk v g := fun hb => HAP.out hb
  have hc1 := I2.out.heap HC.out ng
  have hc2 : (w1.setCell ⟨g, o, none⟩ vh0).heap[g]? = some (.cells (fc3 pre post vh0 rd .nilIface) t (0, 0)) := by
    have := blk_set hc1 o vh0
    rw [fc3_set0 _ _ _ _ _ _ _ ho] at this
    exact this
  have fg : Fr (one g) w1 (w1.setCell ⟨g, o, none⟩ vh0) := fr_one_set _ _ _ _
  have own2 : OwB (w1.setCell ⟨g, o, none⟩ vh0) vh0 B := I1.out.fr fg (fun q hq hb => by
    have e' : q = g := hb
    obtain ⟨cs', hb'⟩ := I1.out.typed q hq
    rw [e', hc1] at hb'
    injection hb' with hb'
    injection hb' with _ e2
    exact HT.out.1 e2)
  have FD0 : Aside0 (Fd (w1.setCell ⟨g, o, none⟩ vh0) g t pre post vh0 B rd none) := ⟨⟨⟨_, hc2, rfl⟩, own2, HT.out, HG0.out, fun hq => by
    rcases I3.out with h9 | ⟨q', h9, h10⟩
    · rw [hq] at h9; exact HV0.out h9.symm
    · rw [hq] at h9; injection h9 with h9; have := HG.out.lt; omega⟩⟩
  have FR0 : Aside0 (Fr (Fs g v) w (w1.setCell ⟨g, o, none⟩ vh0)) := ⟨(I2.out.mono (fun _ _ h => .inr h)).trans fg (fun _ _ h => .inl h)⟩
  generalize w1.setCell ⟨g, o, none⟩ vh0 = w2 at FD0 FR0 ⊢
  have hBb : B.length ≤ 1000000000 := by omega
  clear hc1 hc2 fg own2 ng k1 k2 I1 I2 hBl' hvh0 c0 c1 c2 f0 f1 f2 hl hBl
  go_loopw [5] (fun v5 wr => ∃ (k : Nat) (vh : Value) (L : List F3), k ≤ B.length ∧ L.length ≤ k ∧ Aside0 (Fd wr g t pre post vh (B.drop k) (rd + k) none) ∧ Aside0 (Fo wr w.heap.size g vh v5 L) ∧
    Aside0 (parse B = (L ++ (parse (B.drop k)).1, k + (parse (B.drop k)).2.1, (parse (B.drop k)).2.2.map fun q => (k + q.1, q.2))) ∧ Aside0 (Fr (Fs g v) w wr) ∧ Aside0 (Aw w v vh)) (fun _ wr => lenC (wr.cell? ⟨g, o, Option.none⟩))
  case atStart => exact ⟨0, vh0, [], Nat.zero_le _, Nat.le_refl _, FD0, ⟨⟨⟨[], Ow.nil _ _ _, rfl, fun e he => by cases he⟩, fun q hq => by cases hq⟩⟩, ⟨by
    simp only [List.drop_zero, List.nil_append, Nat.zero_add, Option.map_id']⟩, FR0, ⟨Aw.of I3.out⟩⟩
  case round =>
    obtain ⟨k, vh, L, hk, hLk, HFd, HFo, HP, HFr, HAt⟩ := hrel
    obtain ⟨held', hh'⟩ : ∃ h', B.drop k = h' := ⟨_, rfl⟩
    obtain ⟨r2, hr2⟩ : ∃ r2, rd + k = r2 := ⟨_, rfl⟩
    have hl' : held'.length = B.length - k := by rw [← hh', List.length_drop]
    rw [hh', hr2] at HFd
    rw [hh'] at HP
    have HH' := Aside0.mk hh'; have HR2 := Aside0.mk hr2
    have hr2b : r2 ≤ 2000000000 := by omega
    obtain ⟨ev, hc, he, c0, c1, c2, f0, f1, f2, hl⟩ := HFd.out.open_ o ho
    obtain rfl : ev = .nilIface := he
    have hmeas : lenC (wr.cell? ⟨g, o, Option.none⟩) = held'.length := by
      rw [c0]; obtain ⟨A9, c9, rfl⟩ := HFd.out.own.form; rfl
    have HCC := Aside0.mk hc; have HM := Aside0.mk hmeas
    have hlb : held'.length ≤ 1000000000 := by omega
    have HL' := Aside0.mk hl'
    clear hh' hr2 hc hmeas hl'
    go_wp2_with fail
    refine (readF_calls vh held' wr HFd.out.own.rd (by omega)).mono ?_
    have hplc := readS_plc held'
    have hok := readS_ok held'
    have hpe := @parse_err held'
    have hpo := @parse_ok held'
    obtain ⟨⟨kk, s, xs, n, er⟩, hrd⟩ : ∃ q, readS held' = q := ⟨_, rfl⟩
    rw [hrd] at hplc hok hpe hpo ⊢
    dsimp only at hplc hok hpe hpo ⊢
    rintro e w3 ⟨d, ev, rfl, he, hf3, hd, hn⟩
    have F3a := Aside0.mk hf3; have HE := Aside0.mk he; have HD := Aside0.mk hd; have HN := Aside0.mk hn
    have H1 := Aside0.mk hplc; have H2 := Aside0.mk hok; have H3 := Aside0.mk @hpe; have H4 := Aside0.mk @hpo
    clear hf3 he hn hplc hok hpe hpo hrd
    obtain ⟨D, cD, rfl⟩ := hd.form
    clear hd
    have FX : Aside0 (Fr No wr (w3.alloc (.cells #[.int .i64 (kk : Int), .int .i64 (s : Int), .slice D xs.length cD] 39))) := ⟨F3a.out.alloc _⟩
    have FrX : Aside0 (Fr (Fs g v) w (w3.alloc (.cells #[.int .i64 (kk : Int), .int .i64 (s : Int), .slice D xs.length cD] 39))) := ⟨HFr.out.none FX.out⟩
    rcases er with _ | ⟨p, e⟩
    · obtain rfl : ev = .nilIface := HE.out
      obtain ⟨hn1, hn2, hn3⟩ := H2.out rfl
      have hpo := H4.out rfl
      obtain ⟨A9, c9, rfl⟩ := HFd.out.own.form
      have hc9 : held'.length ≤ c9 := by obtain ⟨A', c', he', h9, _⟩ := HFd.out.own.rd; injection he' with _ _ e3; omega
      obtain ⟨A2, hcut, hrd⟩ := cut_tail A9 held'.length c9 n hn2 hc9
      obtain ⟨fs, hOw, hmap, hmine⟩ := HFo.out.fs
      have HOV : Aside0 (∀ q, (Value.slice A9 held'.length c9).ownBlock = some q → u5.ownBlock ≠ some q) := ⟨fun q hq hb => HFd.out.own.ne hOw (by decide) q hq hb⟩
      have HCUT := Aside0.mk hcut; have HRD := Aside0.mk hrd; have HPO := Aside0.mk hpo; have HOW := Aside0.mk hOw; have HMAP := Aside0.mk hmap; have HMINE := Aside0.mk hmine
      have hfl : fs.length = L.length := by have := congrArg List.length hmap; simpa using this
      have HFL := Aside0.mk hfl
      clear hcut hrd hpo hOw hmap hmine hfl H1 H2 H3 H4
      go_wp2_with fail
      refine (is_nil _ _).mono ?_
      rintro en x1 ⟨rfl, rfl⟩
      have hcX := FX.out.heap HCC.out id
      have HCX := Aside0.mk hcX
      have OX : Aside0 (Ow fF 39 (w3.alloc (.cells #[.int .i64 (kk : Int), .int .i64 (s : Int), .slice D xs.length cD] 39)) u5 fs) := ⟨HOW.out.no FX.out⟩
      clear hcX
      have XF : Aside0 ((w3.alloc (.cells #[.int .i64 (kk : Int), .int .i64 (s : Int), .slice D xs.length cD] 39)).heap[w3.heap.size]? = some (.cells #[.int .i64 (kk : Int), .int .i64 (s : Int), .slice D xs.length cD] 39 (0, 0))) := ⟨heap_alloc_new w3 _⟩
      have DX : Aside0 (OwB (w3.alloc (.cells #[.int .i64 (kk : Int), .int .i64 (s : Int), .slice D xs.length cD] 39)) (.slice D xs.length cD) xs) := ⟨HD.out.no ((Fr.refl _ _).alloc _)⟩
      clear c0 c1 c2 f0 f1 f2 hl
      go_upto_region 12 with fail
      change Code.wp _ _ _ _ (w3.alloc (.cells #[.int .i64 (kk : Int), .int .i64 (s : Int), .slice D xs.length cD] 39))
      generalize w3.alloc (.cells #[.int .i64 (kk : Int), .int .i64 (s : Int), .slice D xs.length cD] 39) = wx at FX FrX HCX OX XF DX ⊢
      have hcut := HCUT.out
      have LX := ld_all (P := Tryd.prog) (ty := 39) XF.out Tryd.underlying39 rfl (by kernel_rfl)
      go_wp2_with (first
        | (refine ldG (.tmp 6) 39 _ _ rfl rfl (LX _ (Fr.refl _ _)) (by first | rfl | (go_simp; done)) ?_)
        | (at_builtin; refine ap1 (f := fF) rfl (.tmp 59) (.tmp 61) 26 39 (.agg #[.int .i64 0, .int .i64 0, .slice none 0 0]) 40 rfl Tryd.underlying26 infoF rfl (by decide) (by decide) u5 fs ⟨kk, s, D, cD, xs⟩ [.int .i64 (kk : Int), .int .i64 (s : Int), .slice D xs.length cD] rfl rfl rfl OX.out ?c3 ?_; (case c3 => have := HFL.out; omega); intro v5 w5 h1 h2 h3 h4; have J1 := Aside0.mk h1; have J2 := Aside0.mk h2; have J3 := Aside0.mk h3; have J4 := h2.heap HCX.out (fun hb => by obtain ⟨cs', hb'⟩ := OX.out.typed g hb; rw [HCX.out] at hb'; injection hb' with hb'; injection hb' with _ e2; exact HT.out.2.2 e2); have J5 := Aside0.mk J4; have k1 : w5.cell? ⟨g, o, Option.none⟩ = some (.slice A9 held'.length c9) := (by rw [blk_cell J4, fc3_get0 _ _ _ _ _ _ ho]); have k3 : g < w5.heap.size := blk_lt J4; clear h1 h2 h3 h4 J4)
        | (at_builtin; refine apBs (.slice (some ⟨w5.heap.size, 0, none⟩) 0 0) [] (.slice A2 (held'.length - n) (c9 - n)) (held'.drop n) rfl (.tmp 64) (.tmp 70) rfl rfl rfl (own_empty w5) ?e1 ?e2 ?_; (case e1 => exact (HRD.out held' _ (((HFd.out.own.rd).no FX.out).fr J2.out (fun _ q hq hb => HOV.out q hq hb))).no ((Fr.refl _ _).alloc _)); (case e2 => simp; omega); intro v6 w6 h1 h2 h3 h4; have F6 : Aside0 (Fr No w5 w6) := (⟨((Fr.refl No w5).alloc _).trans h2 (fun q hq hb => blk_new_ne w5 q hq hb)⟩); have N6 : Aside0 (∀ q, v6.ownBlock = some q → w5.heap.size ≤ q) := (⟨fun q hq => Nat.le_of_not_lt (fun hlt => blk_new_ne w5 q hlt (h3.back hq (by simp; omega)))⟩); have M1 : Aside0 (OwB w6 v6 (held'.drop n)) := (⟨by simpa using h1⟩); have J6 := F6.out.heap J5.out id; have J7 := Aside0.mk J6; have l0 : w6.cell? ⟨g, o, Option.none⟩ = some (.slice A9 held'.length c9) := (by rw [blk_cell J6, fc3_get0 _ _ _ _ _ _ ho]); have l1 : w6.cell? ⟨g, o + 1, Option.none⟩ = some (.int .i64 (r2 : Int)) := (by rw [blk_cell J6, fc3_get1 _ _ _ _ _ _ ho]); have l2 : w6.frozen? ⟨g, o, Option.none⟩ = false := blk_frozen J6 _; have l3 : w6.frozen? ⟨g, o + 1, Option.none⟩ = false := blk_frozen J6 _; have l4 : g < w6.heap.size := blk_lt J6; have i6 := M1.out.form; obtain ⟨A6, c6, rfl⟩ := i6; clear h1 h2 h3 h4 J6))
      go_roundw
      case rel =>
        obtain ⟨vn, hvn⟩ : ∃ vn, Value.slice A6 (held'.length - n) c6 = vn := ⟨_, rfl⟩
        have hdl : (held'.drop n).length = held'.length - n := List.length_drop
        have M1' := M1.out; have N6' := N6.out
        rw [hdl, hvn] at M1' N6'
        rw [hvn, show (Value.int .i64 ((r2 : Int) + (n : Int))) = .int .i64 ((r2 + n : Nat) : Int) from rfl]
        have s1 := blk_set J7.out o vn
        rw [fc3_set0 _ _ _ _ _ _ _ ho] at s1
        have s2 := blk_set s1 (o + 1) (.int .i64 ((r2 + n : Nat) : Int))
        rw [fc3_set1 _ _ _ _ _ _ _ ho] at s2
        have fz : Fr (one g) w6 ((w6.setCell ⟨g, o, none⟩ vn).setCell ⟨g, o + 1, none⟩ (.int .i64 ((r2 + n : Nat) : Int))) := (fr_one_set _ _ _ _).trans (fr_one_set _ _ _ _) (fun _ _ h => h)
        have hwx := FX.out.size; have hw5 := J2.out.size; have hw6 := F6.out.size; have hwr := HFr.out.size
        have hgl : g < wr.heap.size := blk_lt HCC.out
        have ownz : ∀ {u : Value} {ys : List UInt8}, OwB w6 u ys → OwB ((w6.setCell ⟨g, o, none⟩ vn).setCell ⟨g, o + 1, none⟩ (.int .i64 ((r2 + n : Nat) : Int))) u ys := fun hu => hu.fr fz (fun q hq hb => by
          have e' : q = g := hb
          obtain ⟨cs', hb'⟩ := hu.typed q hq
          rw [e', J7.out] at hb'
          injection hb' with hb'
          injection hb' with _ e2
          exact HT.out.1 e2)
        have hNn : ∀ q, (Value.slice D xs.length cD).ownBlock = some q → wr.heap.size ≤ q := HN.out
        have hOld : ∀ e ∈ fs, mine ((w6.setCell ⟨g, o, none⟩ vn).setCell ⟨g, o + 1, none⟩ (.int .i64 ((r2 + n : Nat) : Int))) w.heap.size g vn e := fun e he => by
          have h0 := HMINE.out e he
          have h1 := (h0.fr FX.out (fun _ _ => id)).fr J2.out (fun q hq hb => (h0.own.no FX.out).ne OX.out (by decide) q hq hb)
          have h2 := h1.fr F6.out (fun _ _ => id)
          have h3 := h2.fr fz (fun q hq hb => h2.ng q hq hb)
          exact ⟨h3.own, h3.new, h3.lt, h3.ng, fun q hq hb => by have := h0.lt q hq; have := N6' q hb; omega⟩
        have hNew : mine ((w6.setCell ⟨g, o, none⟩ vn).setCell ⟨g, o + 1, none⟩ (.int .i64 ((r2 + n : Nat) : Int))) w.heap.size g vn ⟨kk, s, D, cD, xs⟩ := by
          have hD5 : OwB w5 (.slice D xs.length cD) xs := DX.out.fr J2.out (fun q hq hb => DX.out.ne OX.out (by decide) q hq hb)
          exact ⟨ownz (hD5.no F6.out), fun q hq => by have := hNn q hq; omega, fun q hq => by have := hD5.lt q hq; have := fz.size; omega, fun q hq => by have := hNn q hq; omega, fun q hq hb => by have := hD5.lt q hq; have := N6' q hb; omega⟩
        have hvo : Ow fF 39 ((w6.setCell ⟨g, o, none⟩ vn).setCell ⟨g, o + 1, none⟩ (.int .i64 ((r2 + n : Nat) : Int))) v5 (fs ++ [⟨kk, s, D, cD, xs⟩]) := (J1.out.no F6.out).fr fz (fun q hq hb => by
          have e' : q = g := hb
          obtain ⟨cs', hb'⟩ := (J1.out.no F6.out).typed q hq
          rw [e', J7.out] at hb'
          injection hb' with hb'
          injection hb' with _ e2
          exact HT.out.2.2 e2)
        have hdd : held'.drop n = B.drop (k + n) := by rw [← HH'.out, List.drop_drop]
        refine ⟨k + n, vn, L ++ [(kk, s, xs)], by have := HL'.out; omega, by simp; omega, ⟨⟨⟨_, ?_, rfl⟩, ?_, HT.out, HG0.out, fun h => by have := N6' 0 h; omega⟩⟩, ⟨⟨⟨fs ++ [⟨kk, s, D, cD, xs⟩], hvo, by simp [HMAP.out, tri, up], fun e he => ?_⟩, fun q hq => ?_⟩⟩, ⟨?_⟩, ⟨?_⟩, ⟨fun q hq => .inr (by have := N6' q hq; omega)⟩⟩
        · rw [show rd + (k + n) = r2 + n by have := HR2.out; omega]; exact s2
        · rw [← hdd]; exact ownz M1'
        · rcases List.mem_append.1 he with he | he
          · exact hOld e he
          · obtain rfl : e = ⟨kk, s, D, cD, xs⟩ := by simpa using he
            exact hNew
        · rcases J3.out with h9 | ⟨q', h9, h10⟩
          · rw [hq] at h9; exact HFo.out.new q h9.symm
          · rw [hq] at h9; injection h9 with h9; omega
        · rw [HP.out, HPO.out, ← hdd]
          simp only [List.append_assoc, List.cons_append, List.nil_append, Nat.add_assoc, Option.map_map]
          rfl
        · exact ((((FrX.out.trans J2.out (fun q hq hb => absurd (HFo.out.new q hb) (by omega))).none F6.out)).trans fz (fun _ _ h => .inl h))
      case measure =>
        have s1 := blk_set J7.out o (.slice A6 (held'.length - n) c6)
        rw [fc3_set0 _ _ _ _ _ _ _ ho] at s1
        have s2 := blk_set s1 (o + 1) (.int .i64 ((r2 + n : Nat) : Int))
        rw [fc3_set1 _ _ _ _ _ _ _ ho] at s2
        have e1 : lenC (((w6.setCell ⟨g, o, none⟩ (.slice A6 (held'.length - n) c6)).setCell ⟨g, o + 1, none⟩ (.int .i64 ((r2 + n : Nat) : Int))).cell? ⟨g, o, none⟩) = held'.length - n := by
          rw [blk_cell s2, fc3_get0 _ _ _ _ _ _ ho]; rfl
        rw [HM.out]
        exact Nat.lt_of_le_of_lt (Nat.le_of_eq e1) (by omega)
    · obtain ⟨fb, rfl, hfb⟩ := id HE.out
      have hfb2 : ∀ o, (w3.alloc o).cell? ⟨fb, 1, Option.none⟩ = some (.int .i64 e) := fun o => by rw [blk_cell (blk_alloc hfb o)]; rfl
      clear hfb
      go_wp2_with fail
      refine (is_fault fb e 30 _ (hfb2 _)).mono ?_
      rintro en x1 ⟨rfl, rfl⟩
      have hp := H3.out rfl
      have hP := HP.out
      by_cases h30 : e = 30
      · subst h30
        rw [if_pos rfl] at hp
        rw [hp] at hP
        simp only [List.append_nil, Nat.add_zero, Option.map_none] at hP
        have hr := HRES.out
        rw [hP] at hr
        dsimp only at hr
        have HX := Aside0.mk hr
        clear hp hP hr
        go_wp2
        go_ret
        rw [← HX.out]
        refine ⟨u5, vh, rfl, ?_, HFo.out.no FX.out, FrX.out, HAt.out⟩
        dsimp only
        rw [HH'.out, HR2.out]
        exact HFd.out.no FX.out
      · have heB : ((e : Int) == 30) = false := by rw [beq_eq_false_iff_ne]; omega
        rw [if_neg h30] at hp
        rw [hp] at hP
        simp only [List.append_nil, Nat.add_zero, Option.map_some] at hP
        have hr := HRES.out
        rw [hP] at hr
        dsimp only at hr
        have HX := Aside0.mk hr
        have hpl : p ≤ held'.length := H1.out _ rfl
        clear hp hP hr h30
        have EX : Aside0 (IsErr (w3.alloc (.cells #[.int .i64 (kk : Int), .int .i64 (s : Int), .slice D xs.length cD] 39)) (.iface 54 (.pointer (some ⟨fb, 0, none⟩))) (some (p, e))) := ⟨HE.out.no ((Fr.refl _ _).alloc _)⟩
        have hcX := FX.out.heap HCC.out id
        have HCX := Aside0.mk hcX
        have GX : Aside0 (Gl (w3.alloc (.cells #[.int .i64 (kk : Int), .int .i64 (s : Int), .slice D xs.length cD] 39))) := ⟨HG.out.fr FrX.out (fun h => by
          rcases h with h | h
          · have := HG0.out; omega
          · exact HV0.out h)⟩
        clear hcX
        go_wp2
        change Code.wp _ _ _ _ (w3.alloc (.cells #[.int .i64 (kk : Int), .int .i64 (s : Int), .slice D xs.length cD] 39))
        generalize w3.alloc (.cells #[.int .i64 (kk : Int), .int .i64 (s : Int), .slice D xs.length cD] 39) = wx at FX FrX EX HCX GX ⊢
        have x0 : wx.cell? ⟨g, o, Option.none⟩ = some vh := by rw [blk_cell HCX.out, fc3_get0 _ _ _ _ _ _ ho]
        have x1 : wx.cell? ⟨g, o + 1, Option.none⟩ = some (.int .i64 (r2 : Int)) := by rw [blk_cell HCX.out, fc3_get1 _ _ _ _ _ _ ho]
        have x2 : wx.cell? ⟨g, o + 2, Option.none⟩ = some .nilIface := by rw [blk_cell HCX.out, fc3_get2 _ _ _ _ _ _ ho]
        have hsum : IntKind.i64.wrap ((r2 : Int) + (p : Int)) = (r2 : Int) + (p : Int) := by rw [i64_left]; exact wrap64_in _ (by omega)
        have FD : Aside0 (Fr No wx wx.drew) := ⟨(Fr.refl _ _).drew⟩
        clear hfb2
        refine Rg.start (fun k' x => k' ≤ 3 → Fr No wx x) (by kernel_rfl) (by kernel_rfl) [6, 9, 11, 15] [[5, 6], [5, 6, 8, 9], [8, 9, 5, 6, 1, 2, 3, 4, 7, 10, 11], [12, 11, 10, 9, 8, 7, 6, 5, 4, 3, 2, 1, 0, 13, 14, 15]] (by kernel_rfl) (.q 0 3 (.q 1 2 (.q 2 2 (.q 3 2 (.q 4 2 (.q 5 0 (.q 8 1 (.e 6 1 (.q 7 2 (.e 9 2 (.q 10 2 (.e 11 3 (.q 12 3 (.q 13 3 (.q 14 3 (.e 15 4 (.done))))))))))))))))) (by kernel_rfl) ?_ ?_
        · exact fun _ _ => FD.out
        repeat (first
          | (refine Rg.q (o := ?_) (v := ?_) ?_ ?_ ?_ ?_ ?_
             rotate_left 2
             · (simp only [List.getElem?_toArray, List.getElem?_cons_succ, List.getElem?_cons_zero]; rfl)
             · exact fun _ _ _ h => h
             · first | rfl | (go_simp; done)
             · (intro x_ hx; (try dsimp only at hx); (have q0 := (hx (by decide)).cell x0 id; have q1 := (hx (by decide)).cell x1 id; have q2 := (hx (by decide)).cell x2 id); go_simp; (try rw [if_neg (by omega)]); (try rw [if_pos (by omega)]); (try go_simp); try with_reducible rfl)
             try simp only [Act.put, List.setIfInBounds_toArray, List.set_cons_zero, List.set_cons_succ])
          | (refine Rg.skip (o := ?_) ?_ ?_ ?_ ?_
             rotate_left 1
             · (simp only [List.getElem?_toArray, List.getElem?_cons_succ, List.getElem?_cons_zero]; rfl)
             · exact fun _ _ _ h => h
             · first | rfl | (go_simp; done)
             try simp only [Act.put, List.setIfInBounds_toArray, List.set_cons_zero, List.set_cons_succ]))
        refine Rg.e (o := ?_) ?_ ?_
        rotate_left 1
        · (simp only [List.getElem?_toArray, List.getElem?_cons_succ, List.getElem?_cons_zero]; rfl)
        intro K hK
        go_simp
        refine (place_calls (GX.out.no FD.out) (EX.out.no FD.out)).mono ?_
        rw [show plE (some (p, e)) = (p : Int) from rfl]
        rintro en y1 ⟨rfl, hf⟩
        have Y1 : Aside0 (Fr No wx y1) := ⟨FD.out.none hf⟩
        clear hf
        go_simp
        refine hK.out _ _ (fun k' x => k' ≤ 3 → Fr No wx x) (fun k x hk h => h) ?_ ?_
        · exact fun _ _ _ => Y1.out
        try simp only [Act.put, List.setIfInBounds_toArray, List.set_cons_zero, List.set_cons_succ]
        repeat (first
          | (refine Rg.q (o := ?_) (v := ?_) ?_ ?_ ?_ ?_ ?_
             rotate_left 2
             · (simp only [List.getElem?_toArray, List.getElem?_cons_succ, List.getElem?_cons_zero]; rfl)
             · exact fun _ _ _ h => h
             · first | rfl | (go_simp; done)
             · (intro x_ hx; (try dsimp only at hx); (have q0 := (hx (by decide)).cell x0 id; have q1 := (hx (by decide)).cell x1 id; have q2 := (hx (by decide)).cell x2 id); go_simp; (try rw [if_neg (by omega)]); (try rw [if_pos (by omega)]); (try go_simp); try with_reducible rfl)
             try simp only [Act.put, List.setIfInBounds_toArray, List.set_cons_zero, List.set_cons_succ])
          | (refine Rg.skip (o := ?_) ?_ ?_ ?_ ?_
             rotate_left 1
             · (simp only [List.getElem?_toArray, List.getElem?_cons_succ, List.getElem?_cons_zero]; rfl)
             · exact fun _ _ _ h => h
             · first | rfl | (go_simp; done)
             try simp only [Act.put, List.setIfInBounds_toArray, List.set_cons_zero, List.set_cons_succ]))
        refine Rg.e (o := ?_) ?_ ?_
        rotate_left 1
        · (simp only [List.getElem?_toArray, List.getElem?_cons_succ, List.getElem?_cons_zero]; rfl)
        intro K hK
        go_simp
        refine (number_calls (GX.out.no Y1.out) (EX.out.no Y1.out)).mono ?_
        rw [show noE (some (p, e)) = e from rfl]
        rintro en y2 ⟨rfl, hf⟩
        have Y2 : Aside0 (Fr No wx y2) := ⟨Y1.out.none hf⟩
        clear hf
        go_simp
        refine hK.out _ _ (fun k' x => k' ≤ 3 → Fr No wx x) (fun k x hk h => h) ?_ ?_
        · exact fun _ _ _ => Y2.out
        try simp only [Act.put, List.setIfInBounds_toArray, List.set_cons_zero, List.set_cons_succ]
        repeat (first
          | (refine Rg.q (o := ?_) (v := ?_) ?_ ?_ ?_ ?_ ?_
             rotate_left 2
             · (simp only [List.getElem?_toArray, List.getElem?_cons_succ, List.getElem?_cons_zero]; rfl)
             · exact fun _ _ _ h => h
             · first | rfl | (go_simp; done)
             · (intro x_ hx; (try dsimp only at hx); (have q0 := (hx (by decide)).cell x0 id; have q1 := (hx (by decide)).cell x1 id; have q2 := (hx (by decide)).cell x2 id); go_simp; (try rw [if_neg (by omega)]); (try rw [if_pos (by omega)]); (try go_simp); try with_reducible rfl)
             try simp only [Act.put, List.setIfInBounds_toArray, List.set_cons_zero, List.set_cons_succ])
          | (refine Rg.skip (o := ?_) ?_ ?_ ?_ ?_
             rotate_left 1
             · (simp only [List.getElem?_toArray, List.getElem?_cons_succ, List.getElem?_cons_zero]; rfl)
             · exact fun _ _ _ h => h
             · first | rfl | (go_simp; done)
             try simp only [Act.put, List.setIfInBounds_toArray, List.set_cons_zero, List.set_cons_succ]))
        refine Rg.e (o := ?_) ?_ ?_
        rotate_left 1
        · (simp only [List.getElem?_toArray, List.getElem?_cons_succ, List.getElem?_cons_zero]; rfl)
        intro K hK
        go_simp
        have Y3 : Aside0 (Fr No wx (y2.alloc (.cells #[.int .i64 ((r2 : Int) + (p : Int)), .int .i64 (e : Int)] 56))) := ⟨Y2.out.alloc _⟩
        have hfn := heap_alloc_new y2 (.cells #[.int .i64 ((r2 : Int) + (p : Int)), .int .i64 (e : Int)] 56)
        have HFN := Aside0.mk hfn
        clear hfn
        refine hK.out _ _ (fun k' x => k' ≤ 3 → Fr No wx x) (fun k x hk h => h) ?_ ?_
        · exact fun _ _ _ => Y3.out
        try simp only [Act.put, List.setIfInBounds_toArray, List.set_cons_zero, List.set_cons_succ]
        repeat (first
          | (refine Rg.q (o := ?_) (v := ?_) ?_ ?_ ?_ ?_ ?_
             rotate_left 2
             · (simp only [List.getElem?_toArray, List.getElem?_cons_succ, List.getElem?_cons_zero]; rfl)
             · exact fun _ _ _ h => h
             · first | rfl | (go_simp; done)
             · (intro x_ hx; (try dsimp only at hx); (have q0 := (hx (by decide)).cell x0 id; have q1 := (hx (by decide)).cell x1 id; have q2 := (hx (by decide)).cell x2 id); go_simp; (try rw [if_neg (by omega)]); (try rw [if_pos (by omega)]); (try go_simp); try with_reducible rfl)
             try simp only [Act.put, List.setIfInBounds_toArray, List.set_cons_zero, List.set_cons_succ])
          | (refine Rg.skip (o := ?_) ?_ ?_ ?_ ?_
             rotate_left 1
             · (simp only [List.getElem?_toArray, List.getElem?_cons_succ, List.getElem?_cons_zero]; rfl)
             · exact fun _ _ _ h => h
             · first | rfl | (go_simp; done)
             try simp only [Act.put, List.setIfInBounds_toArray, List.set_cons_zero, List.set_cons_succ]))
        have HY := Aside0.mk (Y3.out.heap HCX.out id)
        have EY : Aside0 (Fr No w3 w3) := ⟨Fr.refl _ _⟩
        generalize y2.alloc (.cells #[.int .i64 ((r2 : Int) + (p : Int)), .int .i64 (e : Int)] 56) = y3 at Y3 HFN HY ⊢
        obtain ⟨hn9, hhn⟩ : ∃ hn9, y2.heap.size = hn9 := ⟨_, rfl⟩
        rw [hhn] at HFN ⊢
        clear x0 x1 x2 hhn EY
        have x0 : y3.cell? ⟨g, o, Option.none⟩ = some vh := by rw [blk_cell HY.out, fc3_get0 _ _ _ _ _ _ ho]
        have x2 : y3.cell? ⟨g, o + 2, Option.none⟩ = some .nilIface := by rw [blk_cell HY.out, fc3_get2 _ _ _ _ _ _ ho]
        have z0 : y3.frozen? ⟨g, o, Option.none⟩ = false := blk_frozen HY.out _
        have z2 : y3.frozen? ⟨g, o + 2, Option.none⟩ = false := blk_frozen HY.out _
        refine Rg.e (o := ?_) ?_ ?_
        rotate_left 1
        · (simp only [List.getElem?_toArray, List.getElem?_cons_succ, List.getElem?_cons_zero]; rfl)
        intro K hK
        go_simp
        refine hK.out _ _ (fun _ _ => True) (fun k x hk h h2 => absurd (Nat.le_trans hk h2) (by decide)) ?_ ?_
        · exact fun _ _ => trivial
        try simp only [Act.put, List.setIfInBounds_toArray, List.set_cons_zero, List.set_cons_succ]
        repeat (first
          | (refine Rg.q (o := ?_) (v := ?_) ?_ ?_ ?_ ?_ ?_
             rotate_left 2
             · (simp only [List.getElem?_toArray, List.getElem?_cons_succ, List.getElem?_cons_zero]; rfl)
             · exact fun _ _ _ h => h
             · first | rfl | (go_simp; done)
             · (intro x_ hx; (try dsimp only at hx); (skip); go_simp; (try rw [if_neg (by omega)]); (try rw [if_pos (by omega)]); (try go_simp); try with_reducible rfl)
             try simp only [Act.put, List.setIfInBounds_toArray, List.set_cons_zero, List.set_cons_succ])
          | (refine Rg.skip (o := ?_) ?_ ?_ ?_ ?_
             rotate_left 1
             · (simp only [List.getElem?_toArray, List.getElem?_cons_succ, List.getElem?_cons_zero]; rfl)
             · exact fun _ _ _ h => h
             · first | rfl | (go_simp; done)
             try simp only [Act.put, List.setIfInBounds_toArray, List.set_cons_zero, List.set_cons_succ]))
        refine Rg.done ?_
        go_simp
        go_wp2
        go_ret
        have s1 := blk_set HY.out (o + 2) (.iface 54 (.pointer (some ⟨hn9, 0, none⟩)))
        rw [fc3_set2 _ _ _ _ _ _ _ ho] at s1
        have s2 := blk_set s1 o (.slice none 0 0)
        rw [fc3_set0 _ _ _ _ _ _ _ ho] at s2
        have fz : Fr (one g) y3 ((y3.setCell ⟨g, o + 2, none⟩ (.iface 54 (.pointer (some ⟨hn9, 0, none⟩)))).setCell ⟨g, o, none⟩ (.slice none 0 0)) := (fr_one_set _ _ _ _).trans (fr_one_set _ _ _ _) (fun _ _ h => h)
        rw [← HX.out]
        rw [← HR2.out] at s2
        refine ⟨u5, .slice none 0 0, rfl, ⟨⟨_, s2, ⟨hn9, rfl, ?_⟩⟩, Ow.nil _ _ _, HT.out, HG0.out, fun h => by cases h⟩, ?_, (FrX.out.none Y3.out).trans fz (fun _ _ h => .inl h), fun q hq => by cases hq⟩
        · have h9 := fz.heap HFN.out (fun e => by
            have e' : hn9 = g := e
            have h8 := HFN.out
            rw [e', HY.out] at h8
            injection h8 with h8
            injection h8 with _ e2
            exact HT.out.2.1 e2)
          have e9 : ((rd + (k + p) : Nat) : Int) = (r2 : Int) + (p : Int) := by have := HR2.out; omega
          rw [e9]
          exact h9
        · exact (((HFo.out.no FX.out).no Y3.out).put HY.out HT.out.2.2 fz).turn (fun q hq => by cases hq)
theorem add_calls {w : World} {g : Nat} {t : TypeId} {pre post : List Value} {v : Value} {held : List UInt8} {rd : Nat} {er : Option (Nat × Nat)} (hg : Gl w) (hf : Fd w g t pre post v held rd er) (o : Nat) (ho : pre.length = o) (vb : Value) (b : List UInt8) (hb : RdB w vb b) (h1 : rd ≤ 1000000000) (h2 : held.length + b.length ≤ 1000000000) :
    Calls Tryd.prog 8 #[.pointer (some ⟨g, o, none⟩), vb] w fun e w' => ∃ vo v', e = .returned vo ∧ Fd w' g t pre post v' (addS held rd er b).held (addS held rd er b).rd (addS held rd er b).er ∧ Fo w' w.heap.size g v' vo (addS held rd er b).out ∧ Fr (Fs g v) w w' ∧ Aw w v v' := by
  cases er with
  | none => exact add_ok hg hf o ho vb b hb h1 h2
  | some q =>
    refine (add_over hf o ho vb).mono ?_
    rintro e w' ⟨rfl, rfl⟩
    exact ⟨_, v, rfl, hf, ⟨⟨[], Ow.nil _ _ _, rfl, fun e he => by cases he⟩, fun q hq => by cases hq⟩, Fr.refl _ _, fun q hq => .inl hq⟩
end Go.Proofs.YtkljeafnmcmifaaDoor.Fee
