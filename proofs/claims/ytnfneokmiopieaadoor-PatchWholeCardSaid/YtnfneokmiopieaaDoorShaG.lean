/- The document's sum. -/
import Derived.Test.YtnfneokmiopieaaDoorShaS
import Derived.Test.YtnfneokmiopieaaDoorOz
import Derived.Test.YtnfneokmiopieaaDoorArr
import Derived.Test.YtnfneokmiopieaaDoorShaB
set_option linter.unusedVariables false
set_option linter.unusedSimpArgs false
namespace Go.Proofs.YtnfneokmiopieaaDoor.Sha
open Go.RowKit Go.Proofs.YtnfneokmiopieaaDoorW.PrintWords Go.Proofs.YtnfneokmiopieaaDoor.B Go.Proofs.YtnfneokmiopieaaDoor.PB
def lenV2 : Value → Nat
  | .slice _ n _ => n
  | _ => 0
/-- b's row, of w's own. -/
def Bz (w wr : World) (v : Value) (xs : List UInt8) : Prop := Oz wr v xs ∧ (∀ k, v.ownBlock = some k → w.heap.size < k) ∧ Fr No w wr ∧ ∃ cs, wr.heap[w.heap.size]? = some (.cells cs 38 (0, 0)) ∧ cs.size = 32
theorem Bz.app {w wr w1 : World} {v v1 : Value} {xs ys : List UInt8} (h : Bz w wr v xs) (h1 : Oz w1 v1 ys) (h2 : Fr (blk v) wr w1) (h3 : At wr v v1) : Bz w w1 v1 ys := by
  obtain ⟨_, hb, hf, cs, hc, hz⟩ := h
  have hsz := hf.size
  have hl : w.heap.size < wr.heap.size := (Array.getElem?_eq_some_iff.1 hc).1
  refine ⟨h1, fun k hk => ?_, hf.trans h2 (fun k hk e => by have := hb k e; omega), cs, h2.heap hc (fun e => by have := hb _ e; omega), hz⟩
  rcases h3 with h3 | ⟨b, h3, hb3⟩
  · exact hb k (h3 ▸ hk)
  · have : b = k := Option.some.inj (h3.symm.trans hk)
    omega
theorem Bz.no {w wr w1 : World} {v : Value} {xs : List UInt8} (h : Bz w wr v xs) (k : Fr No wr w1) : Bz w w1 v xs := by
  obtain ⟨h1, hb, hf, cs, hc, hz⟩ := h
  exact ⟨h1.no k, hb, hf.none k, cs, k.heap hc id, hz⟩

theorem Bz.one {w wr w1 : World} {v : Value} {xs : List UInt8} {g : Nat} {ys : List UInt32} (h : Bz w wr v xs) (hg : Wq wr g ys) (hw : w.heap.size < g) (k : Fr (one g) wr w1) : Bz w w1 v xs := by
  obtain ⟨h1, hb, hf, cs, hc, hz⟩ := h
  exact ⟨h1.fr k (fun b hb e => h1.apart hg (by decide) b hb e), hb, hf.trans k (fun q hq e => by have e' : q = g := e; omega), cs, k.heap hc (fun e => by have e' : w.heap.size = g := e; omega), hz⟩
/-- Where the document's sum stands: j blocks have been taken in. -/
def RSt (w : World) (gh gk : Nat) (wr : World) (v : Value) (M : List UInt8) (j : Nat) : Prop := Bz w wr v M ∧ Wq wr gh (run j (St.of H0) M).list ∧ Wq wr gk K ∧ w.heap.size < gh ∧ gh ≠ gk
/-- Eight words that are read. -/
def Vq (w : World) (g : Nat) (s : St) : Prop := ∀ k, k < 8 → w.cell? ⟨g, k, none⟩ = some (vw (s.list.getD k 0))
theorem Vq.fr {S : Nat → Prop} {w w' : World} {g : Nat} {s : St} (h : Vq w g s) (k : Fr S w w') (hs : ¬ S g) : Vq w' g s := fun i hi => k.cell (h i hi) hs
theorem b64_get (M : List UInt8) (j k : Nat) (hk : k < 64) : ((M.drop (64 * j)).take 64).getD k 0 = M.getD (64 * j + k) 0 := by
  simp only [List.getD]
  rw [List.getElem?_take, if_pos hk, List.getElem?_drop]
theorem oz_at {w : World} {A : Option Addr} {n c : Nat} {xs : List UInt8} (h : Oz w (.slice A n c) xs) (h0 : 0 < xs.length) : ∃ g, A = some ⟨g, 0, none⟩ ∧ ∀ i, i < xs.length → w.cell? ⟨g, i, none⟩ = some (vu8 (xs.getD i 0)) := by
  have hr := h.rd
  rcases h with ⟨h1, rfl⟩ | ⟨g, cap, cur, fz, he, hg, r⟩
  · simp at h0
  · injection he with e1 e2 e3
    subst e1
    refine ⟨g, rfl, fun i hi => ?_⟩
    obtain ⟨A', c', he', _, _, hc⟩ := hr
    injection he' with e4 _ _
    obtain ⟨ad, hA, hc2⟩ := hc h0
    rw [← e4] at hA
    injection hA with hA
    subst hA
    have := hc2 i (vu8 (xs.getD i 0)) (by rw [u8_cells]; simp [hi])
    rw [add_plain] at this
    exact this
set_option maxHeartbeats 64000000 in
set_option maxRecDepth 200000 in
theorem ref_of_calls (s : ByteArray) (w : World) (hs : s.size ≤ 100000000) : Calls Tryd.prog 20 #[.string s] w fun e w' => e = .returned (Arr.av (sha s.data.toList)) ∧ Fr No w w' := by
  obtain ⟨m, hm⟩ : ∃ m, s.data.toList = m := ⟨_, rfl⟩
  have hml : m.length = s.size := by rw [← hm]; exact data_length s
  have HM := Aside0.mk hm; have HML := Aside0.mk hml
  rw [hm]
  clear hm hml
  have hsm : s.size ≤ maxLen := by simp only [maxLen]; omega
  have hs2 : s.size ≤ 9223372036854775807 := by omega
  have hs3 : s.size + 1 ≤ 140737488355328 := by omega
  have HSM := Aside0.mk hsm
  clear hsm
  go_enter Tryd.func20, Tryd.ntmps20
  go_wp2_with (first
    | (refine lsBytes (.tmp 25) s rfl rfl rfl HSM.out ?_; intro v1 w1 hz1 hf1 hb1)
    | (at_builtin; refine apZ1 v1 m 128 128 rfl (.tmp 26) (.tmp 27) rfl rfl rfl (by decide) (by rw [← HM.out]; exact hz1) (by rw [HML.out]; exact hs3) ?_; intro v2 w2 hz2 hf2 ha2))
  have S1 : Aside0 (Bz w w2 v2 (m ++ [128] ++ List.replicate 0 0)) := ⟨by
    rw [List.replicate_zero, List.append_nil]
    refine Bz.app (wr := w1) (v := v1) (xs := m) ⟨by rw [← HM.out]; exact hz1, fun k hk => ?_, ((Fr.refl _ _).alloc _).none hf1, _, hf1.heap (heap_alloc_new w _) id, rfl⟩ hz2 hf2 ha2
    have := hb1 k hk
    simp at this
    omega⟩
  clear hz1 hf1 hb1 hz2 hf2 ha2
  have hzl := zeros_lt m.length
  have hzb := HML.out
  have hmb : m.length ≤ 100000000 := by omega
  clear hzb
  refine wp_loopf (none :: none :: none :: some 3 :: none :: none :: none :: none :: none :: none :: none :: none :: none :: none :: none :: none :: none :: none :: none :: none :: none :: none :: none :: none :: none :: none :: none :: none :: none :: some 29 :: some 30 :: some 31 :: some 32 :: some 33 :: some 34 :: some 35 :: none :: none :: none :: none :: none :: none :: none :: none :: none :: none :: none :: none :: none :: none :: none :: none :: none :: none :: none :: none :: none :: none :: none :: none :: none :: none :: none :: none :: none :: none :: none :: none :: none :: none :: none :: none :: none :: none :: none :: none :: none :: none :: none :: none :: none :: none :: none :: none :: none :: none :: none :: none :: none :: none :: none :: none :: none :: none :: none :: none :: none :: none :: none :: none :: none :: none :: none :: none :: none :: none :: none :: none :: none :: none :: none :: none :: none :: none :: none :: none :: none :: none :: none :: none :: none :: none :: none :: none :: none :: none :: none :: none :: none :: none :: none :: none :: none :: none :: none :: none :: none :: none :: none :: none :: none :: none :: none :: none :: none :: none :: none :: none :: none :: none :: none :: none :: none :: none :: none :: none :: none :: none :: none :: none :: none :: none :: none :: none :: none :: none :: none :: none :: none :: none :: none :: none :: none :: none :: none :: none :: none :: none :: none :: none :: none :: none :: none :: none :: none :: none :: none :: none :: none :: none :: none :: none :: none :: none :: none :: none :: none :: none :: none :: none :: none :: none :: none :: none :: none :: none :: none :: none :: none :: none :: none :: none :: none :: none :: none :: none :: none :: none :: none :: none :: none :: none :: none :: none :: none :: none :: none :: none :: none :: none :: none :: none :: none :: none :: none :: none :: none :: none :: none :: none :: none :: none :: none :: none :: none :: none :: none :: none :: none :: none :: none :: none :: none :: none :: none :: none :: none :: none :: none :: none :: none :: none :: none :: none :: none :: none :: none :: none :: none :: none :: none :: none :: none :: none :: none :: none :: none :: none :: none :: none :: none :: none :: none :: none :: none :: none :: none :: none :: none :: none :: none :: none :: none :: none :: none :: none :: none :: none :: none :: []) (fun f wr => (fun v3 wr => ∃ z : Nat, z ≤ zeros m.length ∧ Aside0 (Bz w wr v3 (m ++ [128] ++ List.replicate z 0))) (f 3) wr) (fun f wr => (fun v3 _ => m.length + 200 - lenV2 v3) (f 3) wr) (by kernel_rfl) ?atStart ?round
  case' atStart => try dsimp only [List.getD_cons_zero, List.getD_cons_succ]
  case' round =>
    intro f wr KR hrel HK1
    try dsimp only at hrel
    dsimp only [over]
    generalize f 3 = u3 at hrel HK1 ⊢
  case atStart => exact ⟨0, Nat.zero_le _, S1⟩
  case round =>
    obtain ⟨z, hz, HS⟩ := hrel
    clear S1
    obtain ⟨M, hM⟩ : ∃ M, m ++ [128] ++ List.replicate z 0 = M := ⟨_, rfl⟩
    have hMl : M.length = m.length + 1 + z := by rw [← hM]; simp; omega
    rw [hM] at HS
    obtain ⟨A3, c3, rfl, hc3⟩ := HS.out.1.form
    obtain ⟨n, hnn⟩ : ∃ n, M.length = n := ⟨_, rfl⟩
    have hlen : m.length + 1 + z = n := by rw [← hnn, hMl]
    have hze := zeros_end m.length z hz
    rw [hnn] at hc3 HS ⊢
    have HNN := Aside0.mk hnn; have HM3 := Aside0.mk hM
    by_cases hze2 : z = zeros m.length
    · have h56 : n % 64 = 56 := by
        have := hze.2 hze2
        omega
      have hI : ((n : Int) % 64 != 56) = false := by
        rw [show (n : Int) % 64 = ((n % 64 : Nat) : Int) from rfl, h56]; rfl
      have HZ := Aside0.mk hze2
      clear hze2 h56 hlen hnn hM hze hMl
      go_wp2_with fail
      have S1 : Aside0 (Bz w wr (.slice A3 n c3) (m ++ [128] ++ List.replicate (zeros m.length) 0 ++ (lenB m.length).take 0)) := ⟨by
        rw [← HZ.out, HM3.out, List.take_zero, List.append_nil]
        exact HS.out⟩
      clear HS
      refine wp_loopf (none :: none :: none :: some 3 :: none :: some 5 :: none :: none :: none :: none :: none :: none :: none :: none :: none :: none :: none :: none :: none :: none :: none :: none :: none :: none :: none :: none :: none :: none :: none :: none :: none :: none :: none :: none :: none :: none :: none :: none :: none :: none :: some 40 :: some 41 :: some 42 :: some 43 :: some 44 :: some 45 :: some 46 :: some 47 :: some 48 :: some 49 :: some 50 :: some 51 :: none :: none :: none :: none :: none :: none :: none :: none :: none :: none :: none :: none :: none :: none :: none :: none :: none :: none :: none :: none :: none :: none :: none :: none :: none :: none :: none :: none :: none :: none :: none :: none :: none :: none :: none :: none :: none :: none :: none :: none :: none :: none :: none :: none :: none :: none :: none :: none :: none :: none :: none :: none :: none :: none :: none :: none :: none :: none :: none :: none :: none :: none :: none :: none :: none :: none :: none :: none :: none :: none :: none :: none :: none :: none :: none :: none :: none :: none :: none :: none :: none :: none :: none :: none :: none :: none :: none :: none :: none :: none :: none :: none :: none :: none :: none :: none :: none :: none :: none :: none :: none :: none :: none :: none :: none :: none :: none :: none :: none :: none :: none :: none :: none :: none :: none :: none :: none :: none :: none :: none :: none :: none :: none :: none :: none :: none :: none :: none :: none :: none :: none :: none :: none :: none :: none :: none :: none :: none :: none :: none :: none :: none :: none :: none :: none :: none :: none :: none :: none :: none :: none :: none :: none :: none :: none :: none :: none :: none :: none :: none :: none :: none :: none :: none :: none :: none :: none :: none :: none :: none :: none :: none :: none :: none :: none :: none :: none :: none :: none :: none :: none :: none :: none :: none :: none :: none :: none :: none :: none :: none :: none :: none :: none :: none :: none :: none :: none :: none :: none :: none :: none :: none :: none :: none :: none :: none :: none :: none :: none :: none :: none :: none :: none :: none :: none :: none :: none :: none :: none :: none :: none :: none :: none :: none :: none :: none :: none :: none :: none :: none :: none :: none :: none :: none :: none :: none :: none :: none :: none :: none :: none :: none :: none :: none :: none :: none :: none :: []) (fun f wr => (fun v3 v5 wr => ∃ t : Nat, v5 = .int .i64 (7 - (t : Int)) ∧ t ≤ 8 ∧ Aside0 (Bz w wr v3 (m ++ [128] ++ List.replicate (zeros m.length) 0 ++ (lenB m.length).take t))) (f 3) (f 5) wr) (fun f wr => (fun _ v5 _ => (intOf v5 + 8).toNat) (f 3) (f 5) wr) (by kernel_rfl) ?atStart ?round
      case' atStart => try dsimp only [List.getD_cons_zero, List.getD_cons_succ]
      case' round =>
        intro f wr KR hrel HK2
        try dsimp only at hrel
        dsimp only [over]
        generalize f 3 = u3 at hrel HK2 ⊢
        generalize f 5 = u5 at hrel HK2 ⊢
      case atStart => exact ⟨0, rfl, by omega, S1⟩
      case round =>
        obtain ⟨t, rfl, ht, HS⟩ := hrel
        clear S1
        obtain ⟨M, hM⟩ : ∃ M, m ++ [128] ++ List.replicate (zeros m.length) 0 ++ (lenB m.length).take t = M := ⟨_, rfl⟩
        have hMl : M.length = m.length + 1 + zeros m.length + t := by
          rw [← hM]; simp [lenB_len]; omega
        rw [hM] at HS
        obtain ⟨A3, c3, rfl, hc3⟩ := HS.out.1.form
        obtain ⟨n, hnn⟩ : ∃ n, M.length = n := ⟨_, rfl⟩
        rw [hnn] at hc3 HS hMl ⊢
        have hn2 : n ≤ 200000000 := by omega
        have HN3 := Aside0.mk hnn; have HM4 := Aside0.mk hM; have HMN := Aside0.mk hMl
        clear hnn hM hMl HM3 HNN
        by_cases ht8 : t < 8
        · obtain ⟨y, hy⟩ : ∃ y, (lenB m.length).getD t 0 = y := ⟨_, rfl⟩
          have hyt : (lenB m.length).take (t + 1) = (lenB m.length).take t ++ [y] := by
            rw [List.take_succ_eq_append_getElem (by rw [lenB_len]; exact ht8), ← hy]
            simp [List.getD, List.getElem?_eq_getElem (show t < (lenB m.length).length by rw [lenB_len]; exact ht8)]
          have hky := lenB_get m.length t ht8
          rw [hy, HML.out] at hky
          have HKY := Aside0.mk hky
          have HYT := Aside0.mk hyt
          clear hy hyt hky
          have hmx : n + 1 ≤ 140737488355328 := by omega
          rcases (by omega : t = 0 ∨ t = 1 ∨ t = 2 ∨ t = 3 ∨ t = 4 ∨ t = 5 ∨ t = 6 ∨ t = 7) with rfl | rfl | rfl | rfl | rfl | rfl | rfl | rfl
          all_goals
            go_wp2_with (at_builtin; refine apZ1 _ M y _ rfl (.tmp 44) (.tmp 50) rfl rfl rfl (by have hk := HKY.out; simp only [Nat.reduceMul, Nat.reduceSub, Nat.reducePow] at hk; omega) HS.out.1 (by rw [HN3.out]; exact hmx) ?_; intro v1 w1 hq1 hF1 hA1)
            have hsa := HS.out.app hq1 hF1 hA1
            rw [← HM4.out, List.append_assoc, ← HYT.out] at hsa
            have S1 := Aside0.mk hsa
            clear HS hq1 hF1 hA1 hsa
            first
              | refine HK2.out _ _ (by unfold keeps; kernel_rfl) ?rel ?measure
              | refine HK1.out _ _ (by unfold keeps; kernel_rfl) ?rel ?measure
            all_goals try dsimp only [List.getD_cons_zero, List.getD_cons_succ]
            case rel => exact ⟨_, rfl, by omega, S1⟩
            case measure => simp [intOf]
        · obtain rfl : t = 8 := by omega
          have hMp : M = pad m := by
            rw [← HM4.out, List.take_of_length_le (by rw [lenB_len]; exact Nat.le_refl _)]
            rfl
          have hpm := pad_length m
          rw [hMp] at HN3 HS
          have hn64 : ∃ q, n = 64 * q := ⟨(m.length + 72) / 64, by rw [← HN3.out, hpm]⟩
          obtain ⟨q, hnq⟩ := hn64
          have HNQ := Aside0.mk hnq
          clear hMp HM4 hpm HMN ht8 ht hI HZ hz hnq
          rw [show (7 : Int) - ((8 : Nat) : Int) = -1 from by decide]
          go_wp2_with (first
            | (go_at_call 31; refine (parts_calls _).mono ?_; rintro e w3 ⟨gk, rfl, hgk, hk3, hf3⟩)
            | (refine stepBS (.slice (some ⟨w3.heap.size, 0, Option.none⟩) 8 8) (w3.alloc (.cells (H0.map vw).toArray 80)) _ _ _ rfl rfl (by kernel_rfl) ?_))
          have hgh : Wq (w3.alloc (.cells (H0.map vw).toArray 80)) w3.heap.size H0 := wq_new w3 _ rfl H0
          have hw3 : w.heap.size < w3.heap.size := by
            have h1 := HS.out.2.2.2
            obtain ⟨cs, hc, _⟩ := h1
            have h2 := (Array.getElem?_eq_some_iff.1 hc).1
            have h3 := hf3.size
            omega
          have R0 : Aside0 (RSt w w3.heap.size gk (w3.alloc (.cells (H0.map vw).toArray 80)) (.slice A3 n c3) (pad m) 0) :=
            ⟨(HS.out.no hf3).no ((Fr.refl _ _).alloc _), hgh, blk_alloc hk3 _, hw3, fun e => by have := hk3.lt; omega⟩
          have hn0 : 0 < n := by
            have h1 := pad_length m
            have h2 := HN3.out
            omega
          obtain ⟨gb, rfl, _⟩ := oz_at HS.out.1 (by rw [HN3.out]; exact hn0)
          generalize w3.alloc (.cells (H0.map vw).toArray 80) = w4 at R0 ⊢
          generalize w3.heap.size = gh at R0 ⊢
          clear HS hgh hw3 hk3 hf3 hgk
          obtain ⟨M, hM⟩ : ∃ M, pad m = M := ⟨_, rfl⟩
          rw [hM] at R0 HN3
          have HMP := Aside0.mk hM
          clear hM
          refine wp_loopf (none :: none :: none :: none :: none :: none :: none :: none :: none :: some 9 :: some 10 :: some 11 :: some 12 :: some 13 :: some 14 :: some 15 :: some 16 :: some 17 :: some 18 :: some 19 :: some 20 :: some 21 :: some 22 :: none :: none :: none :: none :: none :: none :: none :: none :: none :: none :: none :: none :: none :: none :: none :: none :: none :: none :: none :: none :: none :: none :: none :: none :: none :: none :: none :: none :: none :: none :: none :: some 54 :: some 55 :: some 56 :: some 57 :: some 58 :: some 59 :: some 60 :: some 61 :: some 62 :: some 63 :: some 64 :: some 65 :: some 66 :: some 67 :: some 68 :: some 69 :: some 70 :: some 71 :: some 72 :: some 73 :: some 74 :: some 75 :: some 76 :: some 77 :: some 78 :: some 79 :: some 80 :: some 81 :: some 82 :: some 83 :: some 84 :: some 85 :: some 86 :: some 87 :: some 88 :: some 89 :: some 90 :: some 91 :: some 92 :: some 93 :: some 94 :: some 95 :: some 96 :: some 97 :: some 98 :: some 99 :: some 100 :: some 101 :: some 102 :: some 103 :: some 104 :: some 105 :: some 106 :: some 107 :: some 108 :: some 109 :: some 110 :: some 111 :: some 112 :: some 113 :: some 114 :: some 115 :: some 116 :: some 117 :: some 118 :: some 119 :: some 120 :: some 121 :: some 122 :: some 123 :: some 124 :: some 125 :: some 126 :: some 127 :: some 128 :: some 129 :: some 130 :: some 131 :: some 132 :: some 133 :: some 134 :: some 135 :: some 136 :: some 137 :: some 138 :: some 139 :: some 140 :: some 141 :: some 142 :: some 143 :: some 144 :: some 145 :: some 146 :: some 147 :: some 148 :: some 149 :: some 150 :: some 151 :: some 152 :: some 153 :: some 154 :: some 155 :: some 156 :: some 157 :: some 158 :: some 159 :: some 160 :: some 161 :: some 162 :: some 163 :: some 164 :: some 165 :: some 166 :: some 167 :: some 168 :: some 169 :: some 170 :: some 171 :: some 172 :: some 173 :: some 174 :: some 175 :: some 176 :: some 177 :: some 178 :: some 179 :: some 180 :: some 181 :: some 182 :: some 183 :: some 184 :: some 185 :: some 186 :: some 187 :: some 188 :: some 189 :: some 190 :: some 191 :: some 192 :: some 193 :: some 194 :: some 195 :: some 196 :: some 197 :: some 198 :: some 199 :: some 200 :: some 201 :: some 202 :: some 203 :: some 204 :: some 205 :: some 206 :: some 207 :: some 208 :: some 209 :: some 210 :: some 211 :: some 212 :: some 213 :: some 214 :: some 215 :: some 216 :: some 217 :: some 218 :: some 219 :: some 220 :: some 221 :: some 222 :: some 223 :: some 224 :: some 225 :: some 226 :: some 227 :: some 228 :: some 229 :: some 230 :: some 231 :: some 232 :: some 233 :: some 234 :: some 235 :: some 236 :: some 237 :: some 238 :: some 239 :: some 240 :: some 241 :: some 242 :: some 243 :: some 244 :: some 245 :: some 246 :: some 247 :: some 248 :: some 249 :: some 250 :: some 251 :: some 252 :: some 253 :: some 254 :: some 255 :: some 256 :: some 257 :: some 258 :: some 259 :: some 260 :: some 261 :: some 262 :: some 263 :: some 264 :: some 265 :: some 266 :: some 267 :: some 268 :: some 269 :: some 270 :: some 271 :: some 272 :: some 273 :: some 274 :: some 275 :: some 276 :: some 277 :: some 278 :: none :: none :: none :: none :: none :: none :: none :: none :: none :: none :: none :: none :: none :: none :: none :: none :: none :: none :: none :: none :: []) (fun f wr => (fun v9 wr => ∃ at0 : Nat, v9 = .int .i64 (at0 : Int) ∧ at0 ≤ n ∧ Aside0 (∃ j, at0 = 64 * j ∧ j ≤ q ∧ RSt w gh gk wr (.slice (some ⟨gb, 0, Option.none⟩) n c3) M j)) (f 9) wr) (fun f wr => (fun v9 _ => n - (intOf v9).toNat) (f 9) wr) (by kernel_rfl) ?atStart ?round
          case' atStart => try dsimp only [List.getD_cons_zero, List.getD_cons_succ]
          case' round =>
            intro f wr KR hrel HK3
            try dsimp only at hrel
            dsimp only [over]
            generalize f 9 = u9 at hrel HK3 ⊢
          case atStart => exact ⟨0, rfl, by omega, ⟨0, rfl, by omega, R0.out⟩⟩
          case round =>
            obtain ⟨at0, rfl, hat0, hx0⟩ := hrel
            obtain ⟨j, hj64, hj, hR⟩ := hx0.out
            have HJ := Aside0.mk hj64; have HJQ := Aside0.mk hj; have HR := Aside0.mk hR
            clear R0 hx0 hR
            obtain ⟨wa, hwa⟩ : ∃ wa, wa = wr := ⟨_, rfl⟩
            subst hwa
            by_cases hjq : at0 < n
            · have hJ : (at0 : Int) < (n : Int) := by omega
              have hat : at0 + 64 ≤ n := by have := HNQ.out; omega
              clear hj64 hj
              obtain ⟨zz, hzz, hmk⟩ : ∃ zz : Array Value, zz = ((List.replicate 64 (0 : UInt32)).map vw).toArray ∧ ∀ W : World, (Instr.makeSlice 81 (.int .i64 64) (.int .i64 64)).run Tryd.prog W = .ok (.slice (some ⟨W.heap.size, 0, Option.none⟩) 64 64) (W.alloc (.cells zz 80)) := ⟨_, rfl, mk64⟩
              have HZZ := Aside0.mk hzz
              clear hzz
              obtain ⟨b64, hb64⟩ : ∃ b64, (M.drop (64 * j)).take 64 = b64 := ⟨_, rfl⟩
              have HB64 := Aside0.mk hb64
              clear hb64
              go_wp2_with fail
              clear hmk
              have Z0 : Aside0 (Wq (wa.alloc (.cells zz 80)) wa.heap.size (List.replicate 64 0)) := ⟨by rw [HZZ.out]; exact wq_new wa _ rfl _⟩
              have F0 : Aside0 (Fr No wa (wa.alloc (.cells zz 80))) := ⟨(Fr.refl _ _).alloc _⟩
              generalize wa.alloc (.cells zz 80) = wb at Z0 F0 ⊢
              clear HZZ
              refine wp_loopf (none :: none :: none :: none :: none :: none :: none :: none :: none :: none :: none :: some 11 :: some 12 :: none :: none :: none :: none :: none :: none :: none :: none :: none :: none :: none :: none :: none :: none :: none :: none :: none :: none :: none :: none :: none :: none :: none :: none :: none :: none :: none :: none :: none :: none :: none :: none :: none :: none :: none :: none :: none :: none :: none :: none :: none :: none :: none :: none :: none :: none :: none :: none :: some 61 :: some 62 :: some 63 :: some 64 :: some 65 :: some 66 :: some 67 :: some 68 :: some 69 :: some 70 :: some 71 :: some 72 :: some 73 :: some 74 :: some 75 :: some 76 :: some 77 :: some 78 :: some 79 :: some 80 :: some 81 :: some 82 :: some 83 :: some 84 :: some 85 :: some 86 :: some 87 :: none :: none :: none :: none :: none :: none :: none :: none :: none :: none :: none :: none :: none :: none :: none :: none :: none :: none :: none :: none :: none :: none :: none :: none :: none :: none :: none :: none :: none :: none :: none :: none :: none :: none :: none :: none :: none :: none :: none :: none :: none :: none :: none :: none :: none :: none :: none :: none :: none :: none :: none :: none :: none :: none :: none :: none :: none :: none :: none :: none :: none :: none :: none :: none :: none :: none :: none :: none :: none :: none :: none :: none :: none :: none :: none :: none :: none :: none :: none :: none :: none :: none :: none :: none :: none :: none :: none :: none :: none :: none :: none :: none :: none :: none :: none :: none :: none :: none :: none :: none :: none :: none :: none :: none :: none :: none :: none :: none :: none :: none :: none :: none :: none :: none :: none :: none :: none :: none :: none :: none :: none :: none :: none :: none :: none :: none :: none :: none :: none :: none :: none :: none :: none :: none :: none :: none :: none :: none :: none :: none :: none :: none :: none :: none :: none :: none :: none :: none :: none :: none :: none :: none :: none :: none :: none :: none :: none :: none :: none :: none :: none :: none :: none :: none :: none :: none :: none :: none :: none :: none :: none :: none :: none :: none :: none :: none :: none :: none :: none :: none :: none :: none :: none :: none :: none :: none :: none :: none :: none :: none :: none :: none :: none :: none :: none :: none :: none :: none :: none :: none :: none :: none :: none :: none :: none :: none :: none :: none :: none :: none :: none :: []) (fun f wr => (fun v11 wr => ∃ i : Nat, v11 = .int .i64 (i : Int) ∧ i ≤ 16 ∧ Aside0 (Wq wr wa.heap.size (sched b64 i ++ List.replicate (64 - i) 0)) ∧ Aside0 (Fr No wa wr)) (f 11) wr) (fun f wr => (fun v11 _ => 16 - (intOf v11).toNat) (f 11) wr) (by kernel_rfl) ?atStart ?round
              case' atStart => try dsimp only [List.getD_cons_zero, List.getD_cons_succ]
              case' round =>
                intro f wr KR hrel HK4
                try dsimp only at hrel
                dsimp only [over]
                generalize f 11 = u11 at hrel HK4 ⊢
              case atStart => exact ⟨0, rfl, by omega, Z0, F0⟩
              case round =>
                obtain ⟨i, rfl, hi, HW, HF⟩ := hrel
                clear Z0 F0
                by_cases hi16 : i < 16
                · have hI16 : (i : Int) < 16 := by omega
                  go_wp2_with fail
                  have P0 : Aside0 (Wq wr wa.heap.size ((sched b64 i ++ List.replicate (64 - i) 0).set i (pw b64 i 0))) := ⟨by
                    rw [show pw b64 i 0 = 0 from rfl, sched_zero b64 i (by omega)]
                    exact HW.out⟩
                  clear HW
                  refine wp_loopf (none :: none :: none :: none :: none :: none :: none :: none :: none :: none :: none :: none :: some 12 :: none :: none :: none :: none :: none :: none :: none :: none :: none :: none :: none :: none :: none :: none :: none :: none :: none :: none :: none :: none :: none :: none :: none :: none :: none :: none :: none :: none :: none :: none :: none :: none :: none :: none :: none :: none :: none :: none :: none :: none :: none :: none :: none :: none :: none :: none :: none :: none :: none :: none :: none :: none :: some 65 :: some 66 :: some 67 :: some 68 :: some 69 :: some 70 :: some 71 :: some 72 :: some 73 :: some 74 :: some 75 :: some 76 :: some 77 :: some 78 :: some 79 :: some 80 :: some 81 :: some 82 :: some 83 :: some 84 :: some 85 :: some 86 :: some 87 :: none :: none :: none :: none :: none :: none :: none :: none :: none :: none :: none :: none :: none :: none :: none :: none :: none :: none :: none :: none :: none :: none :: none :: none :: none :: none :: none :: none :: none :: none :: none :: none :: none :: none :: none :: none :: none :: none :: none :: none :: none :: none :: none :: none :: none :: none :: none :: none :: none :: none :: none :: none :: none :: none :: none :: none :: none :: none :: none :: none :: none :: none :: none :: none :: none :: none :: none :: none :: none :: none :: none :: none :: none :: none :: none :: none :: none :: none :: none :: none :: none :: none :: none :: none :: none :: none :: none :: none :: none :: none :: none :: none :: none :: none :: none :: none :: none :: none :: none :: none :: none :: none :: none :: none :: none :: none :: none :: none :: none :: none :: none :: none :: none :: none :: none :: none :: none :: none :: none :: none :: none :: none :: none :: none :: none :: none :: none :: none :: none :: none :: none :: none :: none :: none :: none :: none :: none :: none :: none :: none :: none :: none :: none :: none :: none :: none :: none :: none :: none :: none :: none :: none :: none :: none :: none :: none :: none :: none :: none :: none :: none :: none :: none :: none :: none :: none :: none :: none :: none :: none :: none :: none :: none :: none :: none :: none :: none :: none :: none :: none :: none :: none :: none :: none :: none :: none :: none :: none :: none :: none :: none :: none :: none :: none :: none :: none :: none :: none :: none :: none :: none :: none :: none :: none :: none :: none :: none :: none :: none :: none :: none :: []) (fun f wr => (fun v12 wr => ∃ c : Nat, v12 = .int .i64 (c : Int) ∧ c ≤ 4 ∧ Aside0 (Wq wr wa.heap.size ((sched b64 i ++ List.replicate (64 - i) 0).set i (pw b64 i c))) ∧ Aside0 (Fr No wa wr)) (f 12) wr) (fun f wr => (fun v12 _ => 4 - (intOf v12).toNat) (f 12) wr) (by kernel_rfl) ?atStart ?round
                  case' atStart => try dsimp only [List.getD_cons_zero, List.getD_cons_succ]
                  case' round =>
                    intro f wr KR hrel HK5
                    try dsimp only at hrel
                    dsimp only [over]
                    generalize f 12 = u12 at hrel HK5 ⊢
                  case atStart => exact ⟨0, rfl, by omega, P0, HF⟩
                  case round =>
                    obtain ⟨c, rfl, hc, HP, HF⟩ := hrel
                    clear P0
                    by_cases hc4 : c < 4
                    · have hC : (c : Int) < 4 := by omega
                      have hz1 : IntKind.i64.wrap (4 * (i : Int)) = 4 * (i : Int) := by rw [IntKind.wrap_i64]; omega
                      have hz2 : IntKind.i64.wrap ((at0 : Int) + 4 * (i : Int)) = (at0 : Int) + 4 * (i : Int) := by rw [IntKind.wrap_i64]; omega
                      have hz3 : IntKind.i64.wrap ((at0 : Int) + 4 * (i : Int) + (c : Int)) = (at0 : Int) + 4 * (i : Int) + (c : Int) := by rw [IntKind.wrap_i64]; omega
                      have htn : ((at0 : Int) + 4 * (i : Int) + (c : Int)).toNat = at0 + 4 * i + c := by omega
                      have hb0 : (0 : Int) ≤ (at0 : Int) + 4 * (i : Int) + (c : Int) := by omega
                      have hb1 : (at0 : Int) + 4 * (i : Int) + (c : Int) < (n : Int) := by omega
                      obtain ⟨x, hx⟩ : ∃ x, b64.getD (4 * i + c) 0 = x := ⟨_, rfl⟩
                      obtain ⟨p, hp⟩ : ∃ p, pw b64 i c = p := ⟨_, rfl⟩
                      have hpl := pw_lt b64 i c (by omega)
                      rw [hp, hx] at hpl
                      have hp256 : (256 : Nat) ^ c ≤ 256 ^ 3 := Nat.pow_le_pow_right (by decide) (by omega)
                      have hpn : p.toNat < 16777216 := by
                        have e : (256 : Nat) ^ 3 = 16777216 := by decide
                        omega
                      have hnx := hpl.2 hc4
                      have cw : wr.cell? ⟨wa.heap.size, i, Option.none⟩ = some (vw p) := by
                        have h := HP.out.cell i (by rw [List.length_set, sched_len64 b64 i (by omega)]; omega)
                        rw [h, ← hp]
                        simp [List.getD, List.getElem?_set, sched_len64 b64 i (show i ≤ 64 by omega), show i < 64 by omega]
                      have cx : wr.cell? ⟨gb, at0 + 4 * i + c, Option.none⟩ = some (vu8 x) := by
                        obtain ⟨gb2, hgb, h⟩ := oz_at (HR.out.1.1.no HF.out) (by rw [HN3.out]; exact hn0)
                        injection hgb with hgb
                        injection hgb with hgb
                        subst hgb
                        rw [h _ (by rw [HN3.out]; omega), ← hx, ← HB64.out, b64_get _ _ _ (by omega), HJ.out]
                        rw [show 64 * j + 4 * i + c = 64 * j + (4 * i + c) by omega]
                      have fw : wr.frozen? ⟨wa.heap.size, i, Option.none⟩ = false := HP.out.frozen i
                      have HC : Aside0 (wr.cell? ⟨wa.heap.size, i, Option.none⟩ = some (vw p) ∧ wr.cell? ⟨gb, at0 + 4 * i + c, Option.none⟩ = some (vu8 x)) := ⟨cw, cx⟩
                      have HPP := Aside0.mk hp; have HXX := Aside0.mk hx; have HNX := Aside0.mk hnx; have FW := Aside0.mk fw; have CW := Aside0.mk cw
                      have hxl := x.toNat_lt
                      clear hx hp hpl hp256 hnx cw cx fw
                      go_wp2_with fail
                      refine Rg.start (fun k' y => k' ≤ 0 → y.cell? ⟨wa.heap.size, i, Option.none⟩ = some (vw p) ∧ y.cell? ⟨gb, at0 + 4 * i + c, Option.none⟩ = some (vu8 x)) (by kernel_rfl) (by kernel_rfl) [19] [[17, 16, 15, 14, 13, 12, 11, 10, 9, 8, 7, 6, 5, 4, 3, 2, 1, 0, 18, 19]] (by kernel_rfl) (.q 0 0 (.q 1 0 (.q 2 0 (.q 3 0 (.q 4 0 (.q 5 0 (.q 6 0 (.q 7 0 (.q 8 0 (.q 9 0 (.q 10 0 (.q 11 0 (.q 12 0 (.q 13 0 (.q 14 0 (.q 15 0 (.q 16 0 (.q 17 0 (.q 18 0 (.e 19 1 (.done))))))))))))))))))))) (by kernel_rfl) ?_ ?_
                      · exact fun _ _ => HC.out
                      repeat (first
                        | (refine Rg.q (o := ?_) (v := ?_) ?_ ?_ ?_ ?_ ?_
                           rotate_left 2
                           · (simp only [List.getElem?_toArray, List.getElem?_cons_succ, List.getElem?_cons_zero]; rfl)
                           · exact fun _ _ _ h => h
                           · first | rfl | (go_simp; done)
                           · (intro x_ hx; (try dsimp only at hx); (have q0 := (hx (by decide)).1; have q1 := (hx (by decide)).2; clear hx); go_simp; (try rw [if_neg (by omega)]); (try rw [if_pos (by omega)]); (try go_simp); try with_reducible rfl)
                           try simp only [Act.put, List.setIfInBounds_toArray, List.set_cons_zero, List.set_cons_succ])
                        | (refine Rg.skip (o := ?_) ?_ ?_ ?_ ?_
                           rotate_left 1
                           · (simp only [List.getElem?_toArray, List.getElem?_cons_succ, List.getElem?_cons_zero]; rfl)
                           · exact fun _ _ _ h => h
                           · first | rfl | (go_simp; done)
                           try simp only [Act.put, List.setIfInBounds_toArray, List.set_cons_zero, List.set_cons_succ]))
                      have cw := CW.out; have fw := FW.out
                      refine Rg.e (o := ?_) ?_ ?_
                      rotate_left 1
                      · (simp only [List.getElem?_toArray, List.getElem?_cons_succ, List.getElem?_cons_zero]; rfl)
                      intro K hK
                      go_simp
                      clear cw fw
                      rw [bytes_form _ _ hpn hxl, ← HNX.out]
                      have HP2 : Aside0 (Wq (wr.setCell ⟨wa.heap.size, i, Option.none⟩ (vw (pw b64 i (c + 1)))).drew wa.heap.size ((sched b64 i ++ List.replicate (64 - i) 0).set i (pw b64 i (c + 1)))) := ⟨by
                        have h := HP.out.set i (pw b64 i (c + 1))
                        rw [List.set_set] at h
                        exact h⟩
                      have HF2 : Aside0 (Fr No wa (wr.setCell ⟨wa.heap.size, i, Option.none⟩ (vw (pw b64 i (c + 1)))).drew) := ⟨(HF.out.setCell (p := ⟨wa.heap.size, i, Option.none⟩) (.inr (Nat.le_refl _)) _).drew⟩
                      clear HP HF
                      refine hK.out _ _ (fun _ _ => True) (fun k x hk h h2 => absurd (Nat.le_trans hk h2) (by decide)) ?_ ?_
                      · exact fun _ _ => trivial
                      try simp only [Act.put, List.setIfInBounds_toArray, List.set_cons_zero, List.set_cons_succ]
                      refine Rg.done ?_
                      go_simp
                      clear hz1 hz2 hz3 htn hb0 hb1
                      go_wp2
                      first
                        | refine HK5.out _ _ (by unfold keeps; kernel_rfl) ?rel ?measure
                        | refine HK4.out _ _ (by unfold keeps; kernel_rfl) ?rel ?measure
                        | refine HK3.out _ _ (by unfold keeps; kernel_rfl) ?rel ?measure
                        | refine HK2.out _ _ (by unfold keeps; kernel_rfl) ?rel ?measure
                        | refine HK1.out _ _ (by unfold keeps; kernel_rfl) ?rel ?measure
                      all_goals try dsimp only [List.getD_cons_zero, List.getD_cons_succ]
                      case rel => exact ⟨c + 1, by go_num, by omega, HP2, HF2⟩
                      case measure => simp [intOf]; omega
                    · have hC : ¬ (c : Int) < 4 := by omega
                      obtain rfl : c = 4 := by omega
                      have HW2 : Aside0 (Wq wr wa.heap.size (sched b64 (i + 1) ++ List.replicate (64 - (i + 1)) 0)) := ⟨by
                        have h := HP.out
                        rw [sched_next b64 i (by omega) _ (by rw [pw_end, next, if_pos hi16])] at h
                        exact h⟩
                      clear HP
                      go_wp2
                      first
                        | refine HK5.out _ _ (by unfold keeps; kernel_rfl) ?rel ?measure
                        | refine HK4.out _ _ (by unfold keeps; kernel_rfl) ?rel ?measure
                        | refine HK3.out _ _ (by unfold keeps; kernel_rfl) ?rel ?measure
                        | refine HK2.out _ _ (by unfold keeps; kernel_rfl) ?rel ?measure
                        | refine HK1.out _ _ (by unfold keeps; kernel_rfl) ?rel ?measure
                      all_goals try dsimp only [List.getD_cons_zero, List.getD_cons_succ]
                      case rel => exact ⟨i + 1, by go_num, by omega, HW2, HF⟩
                      case measure => simp [intOf]; omega
                · have hI16 : ¬ (i : Int) < 16 := by omega
                  obtain rfl : i = 16 := by omega
                  go_wp2_with fail
                  refine wp_loopf (none :: none :: none :: none :: none :: none :: none :: none :: none :: none :: none :: none :: none :: some 13 :: some 14 :: some 15 :: none :: none :: none :: none :: none :: none :: none :: none :: none :: none :: none :: none :: none :: none :: none :: none :: none :: none :: none :: none :: none :: none :: none :: none :: none :: none :: none :: none :: none :: none :: none :: none :: none :: none :: none :: none :: none :: none :: none :: none :: none :: none :: none :: none :: none :: none :: none :: none :: none :: none :: none :: none :: none :: none :: none :: none :: none :: none :: none :: none :: none :: none :: none :: none :: none :: none :: none :: none :: none :: none :: none :: none :: some 88 :: some 89 :: some 90 :: some 91 :: some 92 :: some 93 :: some 94 :: some 95 :: some 96 :: some 97 :: some 98 :: some 99 :: some 100 :: some 101 :: some 102 :: some 103 :: some 104 :: some 105 :: some 106 :: some 107 :: some 108 :: some 109 :: some 110 :: some 111 :: some 112 :: some 113 :: some 114 :: some 115 :: some 116 :: some 117 :: some 118 :: some 119 :: some 120 :: some 121 :: some 122 :: some 123 :: some 124 :: some 125 :: some 126 :: some 127 :: some 128 :: some 129 :: some 130 :: some 131 :: some 132 :: some 133 :: some 134 :: some 135 :: none :: none :: none :: none :: none :: none :: none :: none :: none :: none :: none :: none :: none :: none :: none :: none :: none :: none :: none :: none :: none :: none :: none :: none :: none :: none :: none :: none :: none :: none :: none :: none :: none :: none :: none :: none :: none :: none :: none :: none :: none :: none :: none :: none :: none :: none :: none :: none :: none :: none :: none :: none :: none :: none :: none :: none :: none :: none :: none :: none :: none :: none :: none :: none :: none :: none :: none :: none :: none :: none :: none :: none :: none :: none :: none :: none :: none :: none :: none :: none :: none :: none :: none :: none :: none :: none :: none :: none :: none :: none :: none :: none :: none :: none :: none :: none :: none :: none :: none :: none :: none :: none :: none :: none :: none :: none :: none :: none :: none :: none :: none :: none :: none :: none :: none :: none :: none :: none :: none :: none :: none :: none :: none :: none :: none :: none :: none :: none :: none :: none :: none :: none :: none :: none :: none :: none :: none :: none :: none :: none :: none :: none :: none :: none :: none :: none :: none :: none :: none :: none :: none :: none :: none :: none :: none :: none :: none :: none :: none :: none :: none :: none :: none :: []) (fun f wr => (fun v13 wr => ∃ i : Nat, v13 = .int .i64 (i : Int) ∧ 16 ≤ i ∧ i ≤ 64 ∧ Aside0 (Wq wr wa.heap.size (sched b64 i ++ List.replicate (64 - i) 0)) ∧ Aside0 (Fr No wa wr)) (f 13) wr) (fun f wr => (fun v13 _ => 64 - (intOf v13).toNat) (f 13) wr) (by kernel_rfl) ?atStart ?round
                  case' atStart => try dsimp only [List.getD_cons_zero, List.getD_cons_succ]
                  case' round =>
                    intro f wr KR hrel HK6
                    try dsimp only at hrel
                    dsimp only [over]
                    generalize f 13 = u13 at hrel HK6 ⊢
                  case atStart => exact ⟨16, rfl, by omega, by omega, HW, HF⟩
                  case round =>
                    obtain ⟨i, rfl, hi16, hi, HW, HF⟩ := hrel
                    by_cases hi64 : i < 64
                    · have hI64 : (i : Int) < 64 := by omega
                      have hget : ∀ j, j < i → wr.cell? ⟨wa.heap.size, j, Option.none⟩ = some (vw ((sched b64 i).getD j 0)) := fun j hj => by
                        have h := HW.out.cell j (by rw [sched_len64 b64 i (by omega)]; omega)
                        rw [h, sched_get b64 i j hj]
                      obtain ⟨v2, hv2⟩ : ∃ v, (sched b64 i).getD (i - 2) 0 = v := ⟨_, rfl⟩
                      obtain ⟨v7, hv7⟩ : ∃ v, (sched b64 i).getD (i - 7) 0 = v := ⟨_, rfl⟩
                      obtain ⟨v15, hv15⟩ : ∃ v, (sched b64 i).getD (i - 15) 0 = v := ⟨_, rfl⟩
                      obtain ⟨v16, hv16⟩ : ∃ v, (sched b64 i).getD (i - 16) 0 = v := ⟨_, rfl⟩
                      have g2 := hget (i - 2) (by omega); have g7 := hget (i - 7) (by omega); have g15 := hget (i - 15) (by omega); have g16 := hget (i - 16) (by omega)
                      rw [hv2] at g2; rw [hv7] at g7; rw [hv15] at g15; rw [hv16] at g16
                      have hnx : next b64 (sched b64 i) i = v16 + s0 v15 + v7 + s1 v2 := by rw [next, if_neg (by omega), hv2, hv7, hv15, hv16]
                      have HNX := Aside0.mk hnx
                      have HG : Aside0 (wr.cell? ⟨wa.heap.size, i - 15, Option.none⟩ = some (vw v15) ∧ wr.cell? ⟨wa.heap.size, i - 2, Option.none⟩ = some (vw v2) ∧ wr.cell? ⟨wa.heap.size, i - 16, Option.none⟩ = some (vw v16) ∧ wr.cell? ⟨wa.heap.size, i - 7, Option.none⟩ = some (vw v7)) := ⟨g15, g2, g16, g7⟩
                      clear hget hv2 hv7 hv15 hv16 g2 g7 g15 g16 hnx
                      have hz2 : IntKind.i64.wrap ((i : Int) - 2) = (i : Int) - 2 := by rw [IntKind.wrap_i64]; omega
                      have hz7 : IntKind.i64.wrap ((i : Int) - 7) = (i : Int) - 7 := by rw [IntKind.wrap_i64]; omega
                      have hz15 : IntKind.i64.wrap ((i : Int) - 15) = (i : Int) - 15 := by rw [IntKind.wrap_i64]; omega
                      have hz16 : IntKind.i64.wrap ((i : Int) - 16) = (i : Int) - 16 := by rw [IntKind.wrap_i64]; omega
                      have ht2 : ((i : Int) - 2).toNat = i - 2 := by omega
                      have ht7 : ((i : Int) - 7).toNat = i - 7 := by omega
                      have ht15 : ((i : Int) - 15).toNat = i - 15 := by omega
                      have ht16 : ((i : Int) - 16).toNat = i - 16 := by omega
                      have hg2 : (0 : Int) ≤ (i : Int) - 2 ∧ (i : Int) - 2 < 64 := by omega
                      have hg7 : (0 : Int) ≤ (i : Int) - 7 ∧ (i : Int) - 7 < 64 := by omega
                      have hg15 : (0 : Int) ≤ (i : Int) - 15 ∧ (i : Int) - 15 < 64 := by omega
                      have hg16 : (0 : Int) ≤ (i : Int) - 16 ∧ (i : Int) - 16 < 64 := by omega
                      go_wp2_with fail
                      refine Rg.start (fun _ x => x.cell? ⟨wa.heap.size, i - 15, Option.none⟩ = some (vw v15) ∧ x.cell? ⟨wa.heap.size, i - 2, Option.none⟩ = some (vw v2) ∧ x.cell? ⟨wa.heap.size, i - 16, Option.none⟩ = some (vw v16) ∧ x.cell? ⟨wa.heap.size, i - 7, Option.none⟩ = some (vw v7)) (by kernel_rfl) (by kernel_rfl) [] [] (by kernel_rfl) (.q 0 0 (.q 1 0 (.q 2 0 (.q 3 0 (.q 4 0 (.q 5 0 (.q 6 0 (.q 7 0 (.q 8 0 (.q 9 0 (.q 10 0 (.q 11 0 (.done))))))))))))) (by kernel_rfl) ?_ ?_
                      · exact fun _ => HG.out
                      repeat (first
                        | (refine Rg.q (o := ?_) (v := ?_) ?_ ?_ ?_ ?_ ?_
                           rotate_left 2
                           · (simp only [List.getElem?_toArray, List.getElem?_cons_succ, List.getElem?_cons_zero]; rfl)
                           · exact fun _ _ _ h => h
                           · first | rfl | (go_simp; done)
                           · (intro x_ hx; (try dsimp only at hx); (have q0 := hx.1; have q1 := hx.2.1; have q2 := hx.2.2.1; have q3 := hx.2.2.2; clear hx); go_simp; (try rw [if_neg (by omega)]); (try rw [if_pos (by omega)]); (try go_simp); try with_reducible rfl)
                           try simp only [Act.put, List.setIfInBounds_toArray, List.set_cons_zero, List.set_cons_succ])
                        | (refine Rg.skip (o := ?_) ?_ ?_ ?_ ?_
                           rotate_left 1
                           · (simp only [List.getElem?_toArray, List.getElem?_cons_succ, List.getElem?_cons_zero]; rfl)
                           · exact fun _ _ _ h => h
                           · first | rfl | (go_simp; done)
                           try simp only [Act.put, List.setIfInBounds_toArray, List.set_cons_zero, List.set_cons_succ]))
                      refine Rg.done ?_
                      go_simp
                      go_wp2_with fail
                      have R7 : ∀ W, Calls Tryd.prog 32 #[vw v15, .int .i64 7] W fun e w' => e = .returned (vw (rotr v15 7)) ∧ ∃ m, w' = W.drewN m := fun W => right_calls v15 7 (by simp) W
                      have R18 : ∀ W, Calls Tryd.prog 32 #[vw v15, .int .i64 18] W fun e w' => e = .returned (vw (rotr v15 18)) ∧ ∃ m, w' = W.drewN m := fun W => right_calls v15 18 (by simp) W
                      have R17 : ∀ W, Calls Tryd.prog 32 #[vw v2, .int .i64 17] W fun e w' => e = .returned (vw (rotr v2 17)) ∧ ∃ m, w' = W.drewN m := fun W => right_calls v2 17 (by simp) W
                      have R19 : ∀ W, Calls Tryd.prog 32 #[vw v2, .int .i64 19] W fun e w' => e = .returned (vw (rotr v2 19)) ∧ ∃ m, w' = W.drewN m := fun W => right_calls v2 19 (by simp) W
                      refine Rg.start (fun k' x => k' ≤ 4 → x.cell? ⟨wa.heap.size, i - 16, Option.none⟩ = some (vw v16) ∧ x.cell? ⟨wa.heap.size, i - 7, Option.none⟩ = some (vw v7)) (by kernel_rfl) (by kernel_rfl) [8, 10, 23, 25, 34] [[7, 8], [7, 8, 9, 10], [7, 8, 9, 10, 22, 23], [7, 8, 9, 10, 22, 23, 24, 25], [32, 31, 30, 29, 28, 27, 26, 25, 24, 23, 22, 21, 20, 19, 18, 17, 16, 15, 14, 13, 12, 11, 10, 9, 8, 7, 6, 5, 4, 3, 2, 1, 0, 33, 34]] (by kernel_rfl) (.q 0 4 (.q 1 4 (.q 2 4 (.q 3 4 (.q 4 4 (.q 5 4 (.q 6 4 (.q 7 0 (.q 9 1 (.q 12 4 (.q 13 4 (.q 16 4 (.q 17 4 (.q 18 4 (.q 19 4 (.q 20 4 (.q 22 2 (.q 24 3 (.q 27 4 (.q 28 4 (.q 31 4 (.e 8 1 (.e 10 2 (.q 11 4 (.q 14 4 (.q 15 4 (.q 21 4 (.e 23 3 (.e 25 4 (.q 26 4 (.q 29 4 (.q 30 4 (.q 32 4 (.q 33 4 (.e 34 5 (.done)))))))))))))))))))))))))))))))))))) (by kernel_rfl) ?_ ?_
                      · exact fun _ _ => ⟨HG.out.2.2.1, HG.out.2.2.2⟩
                      repeat (first
                        | (refine Rg.q (o := ?_) (v := ?_) ?_ ?_ ?_ ?_ ?_
                           rotate_left 2
                           · (simp only [List.getElem?_toArray, List.getElem?_cons_succ, List.getElem?_cons_zero]; rfl)
                           · exact fun _ _ _ h => h
                           · first | rfl | (go_simp; done)
                           · (intro x_ hx; (try dsimp only at hx); (try have q2 := (hx (by decide)).1; try have q3 := (hx (by decide)).2; clear hx); go_simp; (try rw [if_neg (by omega)]); (try rw [if_pos (by omega)]); (try go_simp); try with_reducible rfl)
                           try simp only [Act.put, List.setIfInBounds_toArray, List.set_cons_zero, List.set_cons_succ])
                        | (refine Rg.skip (o := ?_) ?_ ?_ ?_ ?_
                           rotate_left 1
                           · (simp only [List.getElem?_toArray, List.getElem?_cons_succ, List.getElem?_cons_zero]; rfl)
                           · exact fun _ _ _ h => h
                           · first | rfl | (go_simp; done)
                           try simp only [Act.put, List.setIfInBounds_toArray, List.set_cons_zero, List.set_cons_succ]))
                      refine Rg.e (o := ?_) ?_ ?_
                      rotate_left 1
                      · (simp only [List.getElem?_toArray, List.getElem?_cons_succ, List.getElem?_cons_zero]; rfl)
                      intro K hK
                      go_simp
                      refine (R7 _).mono ?_
                      rintro en W' ⟨rfl, m', rfl⟩
                      go_simp
                      refine hK.out _ _ (fun k' x => k' ≤ 4 → x.cell? ⟨wa.heap.size, i - 16, Option.none⟩ = some (vw v16) ∧ x.cell? ⟨wa.heap.size, i - 7, Option.none⟩ = some (vw v7)) (fun k x hk h => h) ?_ ?_
                      · exact fun _ _ _ => ⟨HG.out.2.2.1, HG.out.2.2.2⟩
                      try simp only [Act.put, List.setIfInBounds_toArray, List.set_cons_zero, List.set_cons_succ]
                      repeat (first
                        | (refine Rg.q (o := ?_) (v := ?_) ?_ ?_ ?_ ?_ ?_
                           rotate_left 2
                           · (simp only [List.getElem?_toArray, List.getElem?_cons_succ, List.getElem?_cons_zero]; rfl)
                           · exact fun _ _ _ h => h
                           · first | rfl | (go_simp; done)
                           · (intro x_ hx; (try dsimp only at hx); (try have q2 := (hx (by decide)).1; try have q3 := (hx (by decide)).2; clear hx); go_simp; (try rw [if_neg (by omega)]); (try rw [if_pos (by omega)]); (try go_simp); try with_reducible rfl)
                           try simp only [Act.put, List.setIfInBounds_toArray, List.set_cons_zero, List.set_cons_succ])
                        | (refine Rg.skip (o := ?_) ?_ ?_ ?_ ?_
                           rotate_left 1
                           · (simp only [List.getElem?_toArray, List.getElem?_cons_succ, List.getElem?_cons_zero]; rfl)
                           · exact fun _ _ _ h => h
                           · first | rfl | (go_simp; done)
                           try simp only [Act.put, List.setIfInBounds_toArray, List.set_cons_zero, List.set_cons_succ]))
                      refine Rg.e (o := ?_) ?_ ?_
                      rotate_left 1
                      · (simp only [List.getElem?_toArray, List.getElem?_cons_succ, List.getElem?_cons_zero]; rfl)
                      intro K hK
                      go_simp
                      refine (R18 _).mono ?_
                      rintro en W' ⟨rfl, m', rfl⟩
                      go_simp
                      refine hK.out _ _ (fun k' x => k' ≤ 4 → x.cell? ⟨wa.heap.size, i - 16, Option.none⟩ = some (vw v16) ∧ x.cell? ⟨wa.heap.size, i - 7, Option.none⟩ = some (vw v7)) (fun k x hk h => h) ?_ ?_
                      · exact fun _ _ _ => ⟨HG.out.2.2.1, HG.out.2.2.2⟩
                      try simp only [Act.put, List.setIfInBounds_toArray, List.set_cons_zero, List.set_cons_succ]
                      repeat (first
                        | (refine Rg.q (o := ?_) (v := ?_) ?_ ?_ ?_ ?_ ?_
                           rotate_left 2
                           · (simp only [List.getElem?_toArray, List.getElem?_cons_succ, List.getElem?_cons_zero]; rfl)
                           · exact fun _ _ _ h => h
                           · first | rfl | (go_simp; done)
                           · (intro x_ hx; (try dsimp only at hx); (try have q2 := (hx (by decide)).1; try have q3 := (hx (by decide)).2; clear hx); go_simp; (try rw [if_neg (by omega)]); (try rw [if_pos (by omega)]); (try go_simp); try with_reducible rfl)
                           try simp only [Act.put, List.setIfInBounds_toArray, List.set_cons_zero, List.set_cons_succ])
                        | (refine Rg.skip (o := ?_) ?_ ?_ ?_ ?_
                           rotate_left 1
                           · (simp only [List.getElem?_toArray, List.getElem?_cons_succ, List.getElem?_cons_zero]; rfl)
                           · exact fun _ _ _ h => h
                           · first | rfl | (go_simp; done)
                           try simp only [Act.put, List.setIfInBounds_toArray, List.set_cons_zero, List.set_cons_succ]))
                      refine Rg.e (o := ?_) ?_ ?_
                      rotate_left 1
                      · (simp only [List.getElem?_toArray, List.getElem?_cons_succ, List.getElem?_cons_zero]; rfl)
                      intro K hK
                      go_simp
                      refine (R17 _).mono ?_
                      rintro en W' ⟨rfl, m', rfl⟩
                      go_simp
                      refine hK.out _ _ (fun k' x => k' ≤ 4 → x.cell? ⟨wa.heap.size, i - 16, Option.none⟩ = some (vw v16) ∧ x.cell? ⟨wa.heap.size, i - 7, Option.none⟩ = some (vw v7)) (fun k x hk h => h) ?_ ?_
                      · exact fun _ _ _ => ⟨HG.out.2.2.1, HG.out.2.2.2⟩
                      try simp only [Act.put, List.setIfInBounds_toArray, List.set_cons_zero, List.set_cons_succ]
                      repeat (first
                        | (refine Rg.q (o := ?_) (v := ?_) ?_ ?_ ?_ ?_ ?_
                           rotate_left 2
                           · (simp only [List.getElem?_toArray, List.getElem?_cons_succ, List.getElem?_cons_zero]; rfl)
                           · exact fun _ _ _ h => h
                           · first | rfl | (go_simp; done)
                           · (intro x_ hx; (try dsimp only at hx); (try have q2 := (hx (by decide)).1; try have q3 := (hx (by decide)).2; clear hx); go_simp; (try rw [if_neg (by omega)]); (try rw [if_pos (by omega)]); (try go_simp); try with_reducible rfl)
                           try simp only [Act.put, List.setIfInBounds_toArray, List.set_cons_zero, List.set_cons_succ])
                        | (refine Rg.skip (o := ?_) ?_ ?_ ?_ ?_
                           rotate_left 1
                           · (simp only [List.getElem?_toArray, List.getElem?_cons_succ, List.getElem?_cons_zero]; rfl)
                           · exact fun _ _ _ h => h
                           · first | rfl | (go_simp; done)
                           try simp only [Act.put, List.setIfInBounds_toArray, List.set_cons_zero, List.set_cons_succ]))
                      refine Rg.e (o := ?_) ?_ ?_
                      rotate_left 1
                      · (simp only [List.getElem?_toArray, List.getElem?_cons_succ, List.getElem?_cons_zero]; rfl)
                      intro K hK
                      go_simp
                      refine (R19 _).mono ?_
                      rintro en W' ⟨rfl, m', rfl⟩
                      go_simp
                      refine hK.out _ _ (fun k' x => k' ≤ 4 → x.cell? ⟨wa.heap.size, i - 16, Option.none⟩ = some (vw v16) ∧ x.cell? ⟨wa.heap.size, i - 7, Option.none⟩ = some (vw v7)) (fun k x hk h => h) ?_ ?_
                      · exact fun _ _ _ => ⟨HG.out.2.2.1, HG.out.2.2.2⟩
                      try simp only [Act.put, List.setIfInBounds_toArray, List.set_cons_zero, List.set_cons_succ]
                      repeat (first
                        | (refine Rg.q (o := ?_) (v := ?_) ?_ ?_ ?_ ?_ ?_
                           rotate_left 2
                           · (simp only [List.getElem?_toArray, List.getElem?_cons_succ, List.getElem?_cons_zero]; rfl)
                           · exact fun _ _ _ h => h
                           · first | rfl | (go_simp; done)
                           · (intro x_ hx; (try dsimp only at hx); (try have q2 := (hx (by decide)).1; try have q3 := (hx (by decide)).2; clear hx); go_simp; (try rw [if_neg (by omega)]); (try rw [if_pos (by omega)]); (try go_simp); try with_reducible rfl)
                           try simp only [Act.put, List.setIfInBounds_toArray, List.set_cons_zero, List.set_cons_succ])
                        | (refine Rg.skip (o := ?_) ?_ ?_ ?_ ?_
                           rotate_left 1
                           · (simp only [List.getElem?_toArray, List.getElem?_cons_succ, List.getElem?_cons_zero]; rfl)
                           · exact fun _ _ _ h => h
                           · first | rfl | (go_simp; done)
                           try simp only [Act.put, List.setIfInBounds_toArray, List.set_cons_zero, List.set_cons_succ]))
                      have hcw : wr.cell? ⟨wa.heap.size, i, Option.none⟩ = some (vw ((sched b64 i ++ List.replicate (64 - i) 0).getD i 0)) := HW.out.cell i (by rw [sched_len64 b64 i (by omega)]; omega)
                      have hfw : wr.frozen? ⟨wa.heap.size, i, Option.none⟩ = false := HW.out.frozen i
                      refine Rg.e (o := ?_) ?_ ?_
                      rotate_left 1
                      · (simp only [List.getElem?_toArray, List.getElem?_cons_succ, List.getElem?_cons_zero]; rfl)
                      intro K hK
                      go_simp
                      rw [sched64_form, ← HNX.out]
                      have HW2 : Aside0 (Wq (wr.setCell ⟨wa.heap.size, i, Option.none⟩ (vw (next b64 (sched b64 i) i))) wa.heap.size (sched b64 (i + 1) ++ List.replicate (64 - (i + 1)) 0)) := ⟨by
                        have h := HW.out.set i (next b64 (sched b64 i) i)
                        rw [sched_next b64 i hi64 _ rfl] at h
                        exact h⟩
                      clear hcw hfw hz2 hz7 hz15 hz16 ht2 ht7 ht15 ht16 R7 R18 R17 R19 hg2 hg7 hg15 hg16
                      refine hK.out _ _ (fun _ _ => True) (fun k x hk h h2 => absurd (Nat.le_trans hk h2) (by decide)) ?_ ?_
                      · exact fun _ _ => trivial
                      try simp only [Act.put, List.setIfInBounds_toArray, List.set_cons_zero, List.set_cons_succ]
                      refine Rg.done ?_
                      go_simp
                      go_wp2
                      first
                        | refine HK6.out _ _ (by unfold keeps; kernel_rfl) ?rel ?measure
                        | refine HK5.out _ _ (by unfold keeps; kernel_rfl) ?rel ?measure
                        | refine HK4.out _ _ (by unfold keeps; kernel_rfl) ?rel ?measure
                        | refine HK3.out _ _ (by unfold keeps; kernel_rfl) ?rel ?measure
                        | refine HK2.out _ _ (by unfold keeps; kernel_rfl) ?rel ?measure
                        | refine HK1.out _ _ (by unfold keeps; kernel_rfl) ?rel ?measure
                      all_goals try dsimp only [List.getD_cons_zero, List.getD_cons_succ]
                      case rel =>
                        refine ⟨i + 1, by go_num, by omega, by omega, ⟨HW2.out⟩, ⟨?_⟩⟩
                        repeat (first | refine Fr.drewN ?_ _ | refine Fr.drew ?_)
                        refine Fr.setCell (p := ⟨wa.heap.size, i, Option.none⟩) ?_ (.inr (Nat.le_refl _)) _
                        repeat (first | refine Fr.drewN ?_ _ | refine Fr.drew ?_)
                        exact HF.out
                      case measure => simp [intOf]; omega
                    · have hI64 : ¬ (i : Int) < 64 := by omega
                      obtain rfl : i = 64 := by omega
                      have W1 : Aside0 (Wq wr wa.heap.size (sched b64 64)) := ⟨by simpa using HW.out⟩
                      clear HW
                      obtain ⟨wc, hwc⟩ : ∃ wc, wc = wr := ⟨_, rfl⟩
                      subst hwc
                      obtain ⟨st, hst⟩ : ∃ st, run j (St.of H0) M = st := ⟨_, rfl⟩
                      have hh := HR.out.2.1.no HF.out
                      rw [hst] at hh
                      have HST := Aside0.mk hst
                      clear hst
                      have fa : Fr No wc (wc.alloc (.cells #[] 80)) := (Fr.refl _ _).alloc _
                      have HO : Ow w64 80 (wc.alloc (.cells #[] 80)) (.slice (some ⟨wc.heap.size, 0, Option.none⟩) 0 0) [] := ow_lit w64 80 wc _ rfl [] [] rfl (by simp [maxLen])
                      have HY : Rd w64 (wc.alloc (.cells #[] 80)) (.slice (some ⟨gh, 0, Option.none⟩) 8 8) st.list := (hh.rd (by rw [rounds_len]; simp [maxLen])).no fa
                      have HO2 := Aside0.mk HO; have HY2 := Aside0.mk HY; have FA := Aside0.mk fa; have HH := Aside0.mk hh
                      clear HO HY fa hh
                      go_wp2_with (at_builtin; refine apN (f := w64) rfl (.tmp 136) (.tmp 137) 81 80 (.int .u64 0) 8 rfl Tryd.underlying81 infoU64 rfl Nat.one_pos (by decide) (.slice (some ⟨wc.heap.size, 0, Option.none⟩) 0 0) [] (.slice (some ⟨gh, 0, Option.none⟩) 8 8) st.list rfl rfl HO2.out HY2.out (by rw [rounds_len]; simp) ?_; intro v3 w3 h1 h2 h3 h4)
                      have F3 : Aside0 (Fr No wc w3) := ⟨(FA.out.mono (fun _ _ h => h.elim)).trans h2 (fun q hq hb => by have h9 : wc.heap.size = q := Option.some.inj hb; omega)⟩
                      obtain ⟨gv, cv, rfl, _⟩ := h1.at_ (by rw [List.nil_append, rounds_len]; omega)
                      have V3 : Aside0 (Vq w3 gv st) := ⟨fun k hk => by
                        obtain ⟨A', c', he, _, _, hc⟩ := h1.rd
                        injection he with e1 _ _
                        obtain ⟨ad, hA, hc2⟩ := hc (by rw [List.nil_append, rounds_len]; omega)
                        rw [← e1] at hA
                        injection hA with hA
                        subst hA
                        have := hc2 k (vw (st.list.getD k 0)) (by rw [w64_cells, List.nil_append]; simp [List.getD, List.getElem?_eq_getElem (show k < st.list.length by rw [rounds_len]; exact hk)])
                        rw [add_plain] at this
                        exact this⟩
                      have hgv : gv < w3.heap.size := (Array.getElem?_eq_some_iff.1 (h1.typed gv rfl).choose_spec).1
                      have hnw : wc.heap.size ≤ gv ∨ gv = wc.heap.size := by
                        rcases h3 with h3 | ⟨b, h3, hb⟩
                        · exact .inr (Option.some.inj h3)
                        · have : b = gv := Option.some.inj (h3.symm)
                          simp at hb
                          omega
                      have hnw2 : wc.heap.size ≤ gv := by omega
                      clear h1 h2 h3 h4 FA HO2 HY2 hnw
                      rw [List.nil_append, rounds_len]
                      refine wp_loopf (none :: none :: none :: none :: none :: none :: none :: none :: none :: none :: none :: none :: none :: none :: none :: none :: some 16 :: some 17 :: some 18 :: some 19 :: some 20 :: some 21 :: none :: none :: none :: none :: none :: none :: none :: none :: none :: none :: none :: none :: none :: none :: none :: none :: none :: none :: none :: none :: none :: none :: none :: none :: none :: none :: none :: none :: none :: none :: none :: none :: none :: none :: none :: none :: none :: none :: none :: none :: none :: none :: none :: none :: none :: none :: none :: none :: none :: none :: none :: none :: none :: none :: none :: none :: none :: none :: none :: none :: none :: none :: none :: none :: none :: none :: none :: none :: none :: none :: none :: none :: none :: none :: none :: none :: none :: none :: none :: none :: none :: none :: none :: none :: none :: none :: none :: none :: none :: none :: none :: none :: none :: none :: none :: none :: none :: none :: none :: none :: none :: none :: none :: none :: none :: none :: none :: none :: none :: none :: none :: none :: none :: none :: none :: none :: none :: some 139 :: some 140 :: some 141 :: some 142 :: some 143 :: some 144 :: some 145 :: some 146 :: some 147 :: some 148 :: some 149 :: some 150 :: some 151 :: some 152 :: some 153 :: some 154 :: some 155 :: some 156 :: some 157 :: some 158 :: some 159 :: some 160 :: some 161 :: some 162 :: some 163 :: some 164 :: some 165 :: some 166 :: some 167 :: some 168 :: some 169 :: some 170 :: some 171 :: some 172 :: some 173 :: some 174 :: some 175 :: some 176 :: some 177 :: some 178 :: some 179 :: some 180 :: some 181 :: some 182 :: some 183 :: some 184 :: some 185 :: some 186 :: some 187 :: some 188 :: some 189 :: some 190 :: some 191 :: some 192 :: some 193 :: some 194 :: some 195 :: some 196 :: some 197 :: some 198 :: some 199 :: some 200 :: some 201 :: some 202 :: some 203 :: some 204 :: some 205 :: some 206 :: some 207 :: some 208 :: some 209 :: some 210 :: some 211 :: some 212 :: some 213 :: some 214 :: some 215 :: some 216 :: some 217 :: some 218 :: some 219 :: some 220 :: some 221 :: some 222 :: some 223 :: some 224 :: some 225 :: some 226 :: some 227 :: some 228 :: some 229 :: some 230 :: some 231 :: some 232 :: some 233 :: some 234 :: some 235 :: some 236 :: some 237 :: some 238 :: some 239 :: some 240 :: some 241 :: some 242 :: some 243 :: some 244 :: some 245 :: some 246 :: some 247 :: some 248 :: some 249 :: some 250 :: some 251 :: some 252 :: some 253 :: some 254 :: some 255 :: some 256 :: some 257 :: some 258 :: some 259 :: some 260 :: none :: none :: none :: none :: none :: none :: none :: none :: none :: none :: none :: none :: none :: none :: none :: none :: none :: none :: none :: none :: none :: none :: none :: none :: none :: none :: none :: none :: none :: none :: none :: none :: none :: none :: none :: none :: none :: none :: []) (fun f wr => (fun v16 v17 wr => ∃ i gv cv : Nat, v17 = .int .i64 (i : Int) ∧ i ≤ 64 ∧ v16 = .slice (some ⟨gv, 0, Option.none⟩) 8 cv ∧ wc.heap.size ≤ gv ∧ Aside0 (Vq wr gv (rounds (sched b64 64) st i)) ∧ Aside0 (Fr No wc wr)) (f 16) (f 17) wr) (fun f wr => (fun _ v17 _ => 64 - (intOf v17).toNat) (f 16) (f 17) wr) (by kernel_rfl) ?atStart ?round
                      case' atStart => try dsimp only [List.getD_cons_zero, List.getD_cons_succ]
                      case' round =>
                        intro f wr KR hrel HK7
                        try dsimp only at hrel
                        dsimp only [over]
                        generalize f 16 = u16 at hrel HK7 ⊢
                        generalize f 17 = u17 at hrel HK7 ⊢
                      case atStart => exact ⟨0, gv, cv, rfl, by omega, rfl, hnw2, V3, F3⟩
                      case round =>
                        clear V3 F3 hgv hnw2
                        obtain ⟨i, gv, cv, rfl, hi, rfl, hgv, HV, HQ⟩ := hrel
                        by_cases hi64 : i < 64
                        · have hI64 : (i : Int) < 64 := by omega
                          obtain ⟨s, hs⟩ : ∃ s, rounds (sched b64 64) st i = s := ⟨_, rfl⟩
                          rw [hs] at HV
                          have HS := Aside0.mk hs
                          obtain ⟨y, hx⟩ : ∃ y, (sched b64 64).getD i 0 = y := ⟨_, rfl⟩
                          obtain ⟨kx, hkx⟩ : ∃ kx, K.getD i 0 = kx := ⟨_, rfl⟩
                          have cx := (W1.out.no HQ.out).cell i (by rw [sched_length]; exact hi64)
                          have ck := ((HR.out.2.2.1.no HF.out).no HQ.out).cell i (by simp [K]; omega)
                          rw [hx] at cx; rw [hkx] at ck
                          have HX := Aside0.mk hx; have HKX := Aside0.mk hkx
                          have c0 : wr.cell? ⟨gv, 0, Option.none⟩ = some (vw s.a) := HV.out 0 (by omega)
                          have c1 : wr.cell? ⟨gv, 1, Option.none⟩ = some (vw s.b) := HV.out 1 (by omega)
                          have c2 : wr.cell? ⟨gv, 2, Option.none⟩ = some (vw s.c) := HV.out 2 (by omega)
                          have c3 : wr.cell? ⟨gv, 3, Option.none⟩ = some (vw s.d) := HV.out 3 (by omega)
                          have c4 : wr.cell? ⟨gv, 4, Option.none⟩ = some (vw s.e) := HV.out 4 (by omega)
                          have c5 : wr.cell? ⟨gv, 5, Option.none⟩ = some (vw s.f) := HV.out 5 (by omega)
                          have c6 : wr.cell? ⟨gv, 6, Option.none⟩ = some (vw s.g) := HV.out 6 (by omega)
                          have c7 : wr.cell? ⟨gv, 7, Option.none⟩ = some (vw s.h) := HV.out 7 (by omega)
                          have HC1 : Aside0 (wr.cell? ⟨gv, 4, Option.none⟩ = some (vw s.e) ∧ wr.cell? ⟨gv, 5, Option.none⟩ = some (vw s.f) ∧ wr.cell? ⟨gv, 6, Option.none⟩ = some (vw s.g)) := ⟨c4, c5, c6⟩
                          have HC2 : Aside0 (wr.cell? ⟨gv, 0, Option.none⟩ = some (vw s.a) ∧ wr.cell? ⟨gv, 1, Option.none⟩ = some (vw s.b) ∧ wr.cell? ⟨gv, 2, Option.none⟩ = some (vw s.c)) := ⟨c0, c1, c2⟩
                          have HC3 : Aside0 (wr.cell? ⟨gv, 7, Option.none⟩ = some (vw s.h) ∧ wr.cell? ⟨gv, 4, Option.none⟩ = some (vw s.e) ∧ wr.cell? ⟨gk, i, Option.none⟩ = some (vw kx) ∧ wr.cell? ⟨wa.heap.size, i, Option.none⟩ = some (vw y)) := ⟨c7, c4, ck, cx⟩
                          have HC4 : Aside0 (wr.cell? ⟨gv, 0, Option.none⟩ = some (vw s.a)) := ⟨c0⟩
                          have HC5 : Aside0 (wr.cell? ⟨gv, 0, Option.none⟩ = some (vw s.a) ∧ wr.cell? ⟨gv, 1, Option.none⟩ = some (vw s.b) ∧ wr.cell? ⟨gv, 2, Option.none⟩ = some (vw s.c) ∧ wr.cell? ⟨gv, 3, Option.none⟩ = some (vw s.d) ∧ wr.cell? ⟨gv, 4, Option.none⟩ = some (vw s.e) ∧ wr.cell? ⟨gv, 5, Option.none⟩ = some (vw s.f) ∧ wr.cell? ⟨gv, 6, Option.none⟩ = some (vw s.g)) := ⟨c0, c1, c2, c3, c4, c5, c6⟩
                          clear hs hx hkx c0 c1 c2 c3 c4 c5 c6 c7 cx ck
                          go_wp2_with fail
                          refine Rg.start (fun _ x => x.cell? ⟨gv, 4, Option.none⟩ = some (vw s.e) ∧ x.cell? ⟨gv, 5, Option.none⟩ = some (vw s.f) ∧ x.cell? ⟨gv, 6, Option.none⟩ = some (vw s.g)) (by kernel_rfl) (by kernel_rfl) [] [] (by kernel_rfl) (.q 0 0 (.q 1 0 (.q 2 0 (.q 3 0 (.q 4 0 (.q 5 0 (.q 6 0 (.q 7 0 (.q 8 0 (.q 9 0 (.q 10 0 (.q 11 0 (.q 12 0 (.q 13 0 (.q 14 0 (.q 15 0 (.q 16 0 (.q 17 0 (.q 18 0 (.done)))))))))))))))))))) (by kernel_rfl) ?_ ?_
                          · exact fun _ => HC1.out
                          repeat (first
                            | (refine Rg.q (o := ?_) (v := ?_) ?_ ?_ ?_ ?_ ?_
                               rotate_left 2
                               · (simp only [List.getElem?_toArray, List.getElem?_cons_succ, List.getElem?_cons_zero]; rfl)
                               · exact fun _ _ _ h => h
                               · first | rfl | (go_simp; done)
                               · (intro x_ hx; (try dsimp only at hx); (have q0 := hx.1; have q1 := hx.2.1; have q2 := hx.2.2; clear hx); go_simp; (try rw [if_neg (by omega)]); (try rw [if_pos (by omega)]); (try go_simp); try with_reducible rfl)
                               try simp only [Act.put, List.setIfInBounds_toArray, List.set_cons_zero, List.set_cons_succ])
                            | (refine Rg.skip (o := ?_) ?_ ?_ ?_ ?_
                               rotate_left 1
                               · (simp only [List.getElem?_toArray, List.getElem?_cons_succ, List.getElem?_cons_zero]; rfl)
                               · exact fun _ _ _ h => h
                               · first | rfl | (go_simp; done)
                               try simp only [Act.put, List.setIfInBounds_toArray, List.set_cons_zero, List.set_cons_succ]))
                          refine Rg.done ?_
                          go_simp
                          go_wp2_with fail
                          refine Rg.start (fun _ x => x.cell? ⟨gv, 0, Option.none⟩ = some (vw s.a) ∧ x.cell? ⟨gv, 1, Option.none⟩ = some (vw s.b) ∧ x.cell? ⟨gv, 2, Option.none⟩ = some (vw s.c)) (by kernel_rfl) (by kernel_rfl) [] [] (by kernel_rfl) (.q 0 0 (.q 1 0 (.q 2 0 (.q 3 0 (.q 4 0 (.q 5 0 (.q 6 0 (.q 7 0 (.q 8 0 (.q 9 0 (.q 10 0 (.q 11 0 (.q 12 0 (.q 13 0 (.q 14 0 (.q 15 0 (.q 16 0 (.q 17 0 (.q 18 0 (.q 19 0 (.q 20 0 (.q 21 0 (.q 22 0 (.q 23 0 (.done))))))))))))))))))))))))) (by kernel_rfl) ?_ ?_
                          · exact fun _ => HC2.out
                          repeat (first
                            | (refine Rg.q (o := ?_) (v := ?_) ?_ ?_ ?_ ?_ ?_
                               rotate_left 2
                               · (simp only [List.getElem?_toArray, List.getElem?_cons_succ, List.getElem?_cons_zero]; rfl)
                               · exact fun _ _ _ h => h
                               · first | rfl | (go_simp; done)
                               · (intro x_ hx; (try dsimp only at hx); (have q0 := hx.1; have q1 := hx.2.1; have q2 := hx.2.2; clear hx); go_simp; (try rw [if_neg (by omega)]); (try rw [if_pos (by omega)]); (try go_simp); try with_reducible rfl)
                               try simp only [Act.put, List.setIfInBounds_toArray, List.set_cons_zero, List.set_cons_succ])
                            | (refine Rg.skip (o := ?_) ?_ ?_ ?_ ?_
                               rotate_left 1
                               · (simp only [List.getElem?_toArray, List.getElem?_cons_succ, List.getElem?_cons_zero]; rfl)
                               · exact fun _ _ _ h => h
                               · first | rfl | (go_simp; done)
                               try simp only [Act.put, List.setIfInBounds_toArray, List.set_cons_zero, List.set_cons_succ]))
                          refine Rg.done ?_
                          go_simp
                          go_wp2_with fail
                          rw [choose_form, most_form]
                          have R6 : ∀ W, Calls Tryd.prog 32 #[vw s.e, .int .i64 6] W fun e w' => e = .returned (vw (rotr s.e 6)) ∧ ∃ m, w' = W.drewN m := fun W => right_calls s.e 6 (by simp) W
                          have R11 : ∀ W, Calls Tryd.prog 32 #[vw s.e, .int .i64 11] W fun e w' => e = .returned (vw (rotr s.e 11)) ∧ ∃ m, w' = W.drewN m := fun W => right_calls s.e 11 (by simp) W
                          have R25 : ∀ W, Calls Tryd.prog 32 #[vw s.e, .int .i64 25] W fun e w' => e = .returned (vw (rotr s.e 25)) ∧ ∃ m, w' = W.drewN m := fun W => right_calls s.e 25 (by simp) W
                          refine Rg.start (fun _ x => x.cell? ⟨gv, 7, Option.none⟩ = some (vw s.h) ∧ x.cell? ⟨gv, 4, Option.none⟩ = some (vw s.e) ∧ x.cell? ⟨gk, i, Option.none⟩ = some (vw kx) ∧ x.cell? ⟨wa.heap.size, i, Option.none⟩ = some (vw y)) (by kernel_rfl) (by kernel_rfl) [6, 10, 15] [[3, 4, 5, 6], [3, 4, 5, 6, 7, 8, 9, 10], [3, 4, 5, 6, 7, 8, 9, 10, 12, 13, 14, 15]] (by kernel_rfl) (.q 0 3 (.q 1 3 (.q 2 3 (.q 3 0 (.q 4 0 (.q 5 0 (.q 7 1 (.q 8 1 (.q 9 1 (.q 12 2 (.q 13 2 (.q 14 2 (.q 18 3 (.q 20 3 (.q 21 3 (.q 22 3 (.q 23 3 (.q 25 3 (.q 26 3 (.q 27 3 (.q 28 3 (.e 6 1 (.e 10 2 (.q 11 3 (.e 15 3 (.q 16 3 (.q 17 3 (.q 19 3 (.q 24 3 (.q 29 3 (.q 30 3 (.done)))))))))))))))))))))))))))))))) (by kernel_rfl) ?_ ?_
                          · exact fun _ => HC3.out
                          repeat (first
                            | (refine Rg.q (o := ?_) (v := ?_) ?_ ?_ ?_ ?_ ?_
                               rotate_left 2
                               · (simp only [List.getElem?_toArray, List.getElem?_cons_succ, List.getElem?_cons_zero]; rfl)
                               · exact fun _ _ _ h => h
                               · first | rfl | (go_simp; done)
                               · (intro x_ hx; (try dsimp only at hx); (have q7 := hx.1; have q4 := hx.2.1; have qk := hx.2.2.1; have qw := hx.2.2.2; clear hx); go_simp; (try rw [if_neg (by omega)]); (try rw [if_pos (by omega)]); (try go_simp); try with_reducible rfl)
                               try simp only [Act.put, List.setIfInBounds_toArray, List.set_cons_zero, List.set_cons_succ])
                            | (refine Rg.skip (o := ?_) ?_ ?_ ?_ ?_
                               rotate_left 1
                               · (simp only [List.getElem?_toArray, List.getElem?_cons_succ, List.getElem?_cons_zero]; rfl)
                               · exact fun _ _ _ h => h
                               · first | rfl | (go_simp; done)
                               try simp only [Act.put, List.setIfInBounds_toArray, List.set_cons_zero, List.set_cons_succ]))
                          refine Rg.e (o := ?_) ?_ ?_
                          rotate_left 1
                          · (simp only [List.getElem?_toArray, List.getElem?_cons_succ, List.getElem?_cons_zero]; rfl)
                          intro K hK
                          go_simp
                          refine (R6 _).mono ?_
                          rintro en W' ⟨rfl, m', rfl⟩
                          go_simp
                          refine hK.out _ _ (fun _ x => x.cell? ⟨gv, 7, Option.none⟩ = some (vw s.h) ∧ x.cell? ⟨gv, 4, Option.none⟩ = some (vw s.e) ∧ x.cell? ⟨gk, i, Option.none⟩ = some (vw kx) ∧ x.cell? ⟨wa.heap.size, i, Option.none⟩ = some (vw y)) (fun k x hk h => h) ?_ ?_
                          · exact fun _ _ => HC3.out
                          try simp only [Act.put, List.setIfInBounds_toArray, List.set_cons_zero, List.set_cons_succ]
                          repeat (first
                            | (refine Rg.q (o := ?_) (v := ?_) ?_ ?_ ?_ ?_ ?_
                               rotate_left 2
                               · (simp only [List.getElem?_toArray, List.getElem?_cons_succ, List.getElem?_cons_zero]; rfl)
                               · exact fun _ _ _ h => h
                               · first | rfl | (go_simp; done)
                               · (intro x_ hx; (try dsimp only at hx); (have q7 := hx.1; have q4 := hx.2.1; have qk := hx.2.2.1; have qw := hx.2.2.2; clear hx); go_simp; (try rw [if_neg (by omega)]); (try rw [if_pos (by omega)]); (try go_simp); try with_reducible rfl)
                               try simp only [Act.put, List.setIfInBounds_toArray, List.set_cons_zero, List.set_cons_succ])
                            | (refine Rg.skip (o := ?_) ?_ ?_ ?_ ?_
                               rotate_left 1
                               · (simp only [List.getElem?_toArray, List.getElem?_cons_succ, List.getElem?_cons_zero]; rfl)
                               · exact fun _ _ _ h => h
                               · first | rfl | (go_simp; done)
                               try simp only [Act.put, List.setIfInBounds_toArray, List.set_cons_zero, List.set_cons_succ]))
                          refine Rg.e (o := ?_) ?_ ?_
                          rotate_left 1
                          · (simp only [List.getElem?_toArray, List.getElem?_cons_succ, List.getElem?_cons_zero]; rfl)
                          intro K hK
                          go_simp
                          refine (R11 _).mono ?_
                          rintro en W' ⟨rfl, m', rfl⟩
                          go_simp
                          refine hK.out _ _ (fun _ x => x.cell? ⟨gv, 7, Option.none⟩ = some (vw s.h) ∧ x.cell? ⟨gv, 4, Option.none⟩ = some (vw s.e) ∧ x.cell? ⟨gk, i, Option.none⟩ = some (vw kx) ∧ x.cell? ⟨wa.heap.size, i, Option.none⟩ = some (vw y)) (fun k x hk h => h) ?_ ?_
                          · exact fun _ _ => HC3.out
                          try simp only [Act.put, List.setIfInBounds_toArray, List.set_cons_zero, List.set_cons_succ]
                          repeat (first
                            | (refine Rg.q (o := ?_) (v := ?_) ?_ ?_ ?_ ?_ ?_
                               rotate_left 2
                               · (simp only [List.getElem?_toArray, List.getElem?_cons_succ, List.getElem?_cons_zero]; rfl)
                               · exact fun _ _ _ h => h
                               · first | rfl | (go_simp; done)
                               · (intro x_ hx; (try dsimp only at hx); (have q7 := hx.1; have q4 := hx.2.1; have qk := hx.2.2.1; have qw := hx.2.2.2; clear hx); go_simp; (try rw [if_neg (by omega)]); (try rw [if_pos (by omega)]); (try go_simp); try with_reducible rfl)
                               try simp only [Act.put, List.setIfInBounds_toArray, List.set_cons_zero, List.set_cons_succ])
                            | (refine Rg.skip (o := ?_) ?_ ?_ ?_ ?_
                               rotate_left 1
                               · (simp only [List.getElem?_toArray, List.getElem?_cons_succ, List.getElem?_cons_zero]; rfl)
                               · exact fun _ _ _ h => h
                               · first | rfl | (go_simp; done)
                               try simp only [Act.put, List.setIfInBounds_toArray, List.set_cons_zero, List.set_cons_succ]))
                          refine Rg.e (o := ?_) ?_ ?_
                          rotate_left 1
                          · (simp only [List.getElem?_toArray, List.getElem?_cons_succ, List.getElem?_cons_zero]; rfl)
                          intro K hK
                          go_simp
                          refine (R25 _).mono ?_
                          rintro en W' ⟨rfl, m', rfl⟩
                          go_simp
                          refine hK.out _ _ (fun _ x => x.cell? ⟨gv, 7, Option.none⟩ = some (vw s.h) ∧ x.cell? ⟨gv, 4, Option.none⟩ = some (vw s.e) ∧ x.cell? ⟨gk, i, Option.none⟩ = some (vw kx) ∧ x.cell? ⟨wa.heap.size, i, Option.none⟩ = some (vw y)) (fun k x hk h => h) ?_ ?_
                          · exact fun _ _ => HC3.out
                          try simp only [Act.put, List.setIfInBounds_toArray, List.set_cons_zero, List.set_cons_succ]
                          repeat (first
                            | (refine Rg.q (o := ?_) (v := ?_) ?_ ?_ ?_ ?_ ?_
                               rotate_left 2
                               · (simp only [List.getElem?_toArray, List.getElem?_cons_succ, List.getElem?_cons_zero]; rfl)
                               · exact fun _ _ _ h => h
                               · first | rfl | (go_simp; done)
                               · (intro x_ hx; (try dsimp only at hx); (have q7 := hx.1; have q4 := hx.2.1; have qk := hx.2.2.1; have qw := hx.2.2.2; clear hx); go_simp; (try rw [if_neg (by omega)]); (try rw [if_pos (by omega)]); (try go_simp); try with_reducible rfl)
                               try simp only [Act.put, List.setIfInBounds_toArray, List.set_cons_zero, List.set_cons_succ])
                            | (refine Rg.skip (o := ?_) ?_ ?_ ?_ ?_
                               rotate_left 1
                               · (simp only [List.getElem?_toArray, List.getElem?_cons_succ, List.getElem?_cons_zero]; rfl)
                               · exact fun _ _ _ h => h
                               · first | rfl | (go_simp; done)
                               try simp only [Act.put, List.setIfInBounds_toArray, List.set_cons_zero, List.set_cons_succ]))
                          refine Rg.done ?_
                          go_simp
                          clear R6 R11 R25
                          obtain ⟨N1, hN1, hm1, hl1⟩ := one_form s kx y
                          rw [hN1]
                          have HM1 := Aside0.mk hm1
                          clear hN1 hm1
                          go_wp2_with fail
                          have R2 : ∀ W, Calls Tryd.prog 32 #[vw s.a, .int .i64 2] W fun e w' => e = .returned (vw (rotr s.a 2)) ∧ ∃ m, w' = W.drewN m := fun W => right_calls s.a 2 (by simp) W
                          have R13 : ∀ W, Calls Tryd.prog 32 #[vw s.a, .int .i64 13] W fun e w' => e = .returned (vw (rotr s.a 13)) ∧ ∃ m, w' = W.drewN m := fun W => right_calls s.a 13 (by simp) W
                          have R22 : ∀ W, Calls Tryd.prog 32 #[vw s.a, .int .i64 22] W fun e w' => e = .returned (vw (rotr s.a 22)) ∧ ∃ m, w' = W.drewN m := fun W => right_calls s.a 22 (by simp) W
                          refine Rg.start (fun _ x => x.cell? ⟨gv, 0, Option.none⟩ = some (vw s.a)) (by kernel_rfl) (by kernel_rfl) [3, 7, 12] [[0, 1, 2, 3], [0, 1, 2, 3, 4, 5, 6, 7], [0, 1, 2, 3, 4, 5, 6, 7, 9, 10, 11, 12]] (by kernel_rfl) (.q 0 0 (.q 1 0 (.q 2 0 (.q 4 1 (.q 5 1 (.q 6 1 (.q 9 2 (.q 10 2 (.q 11 2 (.q 14 3 (.e 3 1 (.e 7 2 (.q 8 3 (.e 12 3 (.q 13 3 (.q 15 3 (.q 16 3 (.done)))))))))))))))))) (by kernel_rfl) ?_ ?_
                          · exact fun _ => HC4.out
                          repeat (first
                            | (refine Rg.q (o := ?_) (v := ?_) ?_ ?_ ?_ ?_ ?_
                               rotate_left 2
                               · (simp only [List.getElem?_toArray, List.getElem?_cons_succ, List.getElem?_cons_zero]; rfl)
                               · exact fun _ _ _ h => h
                               · first | rfl | (go_simp; done)
                               · (intro x_ hx; (try dsimp only at hx); (have q0 := hx; clear hx); go_simp; (try rw [if_neg (by omega)]); (try rw [if_pos (by omega)]); (try go_simp); try with_reducible rfl)
                               try simp only [Act.put, List.setIfInBounds_toArray, List.set_cons_zero, List.set_cons_succ])
                            | (refine Rg.skip (o := ?_) ?_ ?_ ?_ ?_
                               rotate_left 1
                               · (simp only [List.getElem?_toArray, List.getElem?_cons_succ, List.getElem?_cons_zero]; rfl)
                               · exact fun _ _ _ h => h
                               · first | rfl | (go_simp; done)
                               try simp only [Act.put, List.setIfInBounds_toArray, List.set_cons_zero, List.set_cons_succ]))
                          refine Rg.e (o := ?_) ?_ ?_
                          rotate_left 1
                          · (simp only [List.getElem?_toArray, List.getElem?_cons_succ, List.getElem?_cons_zero]; rfl)
                          intro K hK
                          go_simp
                          refine (R2 _).mono ?_
                          rintro en W' ⟨rfl, m', rfl⟩
                          go_simp
                          refine hK.out _ _ (fun _ x => x.cell? ⟨gv, 0, Option.none⟩ = some (vw s.a)) (fun k x hk h => h) ?_ ?_
                          · exact fun _ _ => HC4.out
                          try simp only [Act.put, List.setIfInBounds_toArray, List.set_cons_zero, List.set_cons_succ]
                          repeat (first
                            | (refine Rg.q (o := ?_) (v := ?_) ?_ ?_ ?_ ?_ ?_
                               rotate_left 2
                               · (simp only [List.getElem?_toArray, List.getElem?_cons_succ, List.getElem?_cons_zero]; rfl)
                               · exact fun _ _ _ h => h
                               · first | rfl | (go_simp; done)
                               · (intro x_ hx; (try dsimp only at hx); (have q0 := hx; clear hx); go_simp; (try rw [if_neg (by omega)]); (try rw [if_pos (by omega)]); (try go_simp); try with_reducible rfl)
                               try simp only [Act.put, List.setIfInBounds_toArray, List.set_cons_zero, List.set_cons_succ])
                            | (refine Rg.skip (o := ?_) ?_ ?_ ?_ ?_
                               rotate_left 1
                               · (simp only [List.getElem?_toArray, List.getElem?_cons_succ, List.getElem?_cons_zero]; rfl)
                               · exact fun _ _ _ h => h
                               · first | rfl | (go_simp; done)
                               try simp only [Act.put, List.setIfInBounds_toArray, List.set_cons_zero, List.set_cons_succ]))
                          refine Rg.e (o := ?_) ?_ ?_
                          rotate_left 1
                          · (simp only [List.getElem?_toArray, List.getElem?_cons_succ, List.getElem?_cons_zero]; rfl)
                          intro K hK
                          go_simp
                          refine (R13 _).mono ?_
                          rintro en W' ⟨rfl, m', rfl⟩
                          go_simp
                          refine hK.out _ _ (fun _ x => x.cell? ⟨gv, 0, Option.none⟩ = some (vw s.a)) (fun k x hk h => h) ?_ ?_
                          · exact fun _ _ => HC4.out
                          try simp only [Act.put, List.setIfInBounds_toArray, List.set_cons_zero, List.set_cons_succ]
                          repeat (first
                            | (refine Rg.q (o := ?_) (v := ?_) ?_ ?_ ?_ ?_ ?_
                               rotate_left 2
                               · (simp only [List.getElem?_toArray, List.getElem?_cons_succ, List.getElem?_cons_zero]; rfl)
                               · exact fun _ _ _ h => h
                               · first | rfl | (go_simp; done)
                               · (intro x_ hx; (try dsimp only at hx); (have q0 := hx; clear hx); go_simp; (try rw [if_neg (by omega)]); (try rw [if_pos (by omega)]); (try go_simp); try with_reducible rfl)
                               try simp only [Act.put, List.setIfInBounds_toArray, List.set_cons_zero, List.set_cons_succ])
                            | (refine Rg.skip (o := ?_) ?_ ?_ ?_ ?_
                               rotate_left 1
                               · (simp only [List.getElem?_toArray, List.getElem?_cons_succ, List.getElem?_cons_zero]; rfl)
                               · exact fun _ _ _ h => h
                               · first | rfl | (go_simp; done)
                               try simp only [Act.put, List.setIfInBounds_toArray, List.set_cons_zero, List.set_cons_succ]))
                          refine Rg.e (o := ?_) ?_ ?_
                          rotate_left 1
                          · (simp only [List.getElem?_toArray, List.getElem?_cons_succ, List.getElem?_cons_zero]; rfl)
                          intro K hK
                          go_simp
                          refine (R22 _).mono ?_
                          rintro en W' ⟨rfl, m', rfl⟩
                          go_simp
                          refine hK.out _ _ (fun _ x => x.cell? ⟨gv, 0, Option.none⟩ = some (vw s.a)) (fun k x hk h => h) ?_ ?_
                          · exact fun _ _ => HC4.out
                          try simp only [Act.put, List.setIfInBounds_toArray, List.set_cons_zero, List.set_cons_succ]
                          repeat (first
                            | (refine Rg.q (o := ?_) (v := ?_) ?_ ?_ ?_ ?_ ?_
                               rotate_left 2
                               · (simp only [List.getElem?_toArray, List.getElem?_cons_succ, List.getElem?_cons_zero]; rfl)
                               · exact fun _ _ _ h => h
                               · first | rfl | (go_simp; done)
                               · (intro x_ hx; (try dsimp only at hx); (have q0 := hx; clear hx); go_simp; (try rw [if_neg (by omega)]); (try rw [if_pos (by omega)]); (try go_simp); try with_reducible rfl)
                               try simp only [Act.put, List.setIfInBounds_toArray, List.set_cons_zero, List.set_cons_succ])
                            | (refine Rg.skip (o := ?_) ?_ ?_ ?_ ?_
                               rotate_left 1
                               · (simp only [List.getElem?_toArray, List.getElem?_cons_succ, List.getElem?_cons_zero]; rfl)
                               · exact fun _ _ _ h => h
                               · first | rfl | (go_simp; done)
                               try simp only [Act.put, List.setIfInBounds_toArray, List.set_cons_zero, List.set_cons_succ]))
                          refine Rg.done ?_
                          go_simp
                          clear R2 R13 R22
                          obtain ⟨N2, hN2, hm2, hl2⟩ := two_form s
                          rw [hN2]
                          have HM2 := Aside0.mk hm2
                          clear hN2 hm2
                          go_wp2_with fail
                          refine Rg.start (fun k' x => k' ≤ 0 → x.cell? ⟨gv, 0, Option.none⟩ = some (vw s.a) ∧ x.cell? ⟨gv, 1, Option.none⟩ = some (vw s.b) ∧ x.cell? ⟨gv, 2, Option.none⟩ = some (vw s.c) ∧ x.cell? ⟨gv, 3, Option.none⟩ = some (vw s.d) ∧ x.cell? ⟨gv, 4, Option.none⟩ = some (vw s.e) ∧ x.cell? ⟨gv, 5, Option.none⟩ = some (vw s.f) ∧ x.cell? ⟨gv, 6, Option.none⟩ = some (vw s.g)) (by kernel_rfl) (by kernel_rfl) [30] [[27, 28, 29, 24, 25, 26, 21, 22, 23, 19, 17, 14, 15, 16, 18, 20, 11, 12, 13, 8, 9, 10, 5, 6, 7, 3, 1, 0, 2, 4, 30]] (by kernel_rfl) (.q 0 0 (.q 1 0 (.q 2 0 (.q 3 0 (.q 4 0 (.q 5 0 (.q 6 0 (.q 7 0 (.q 8 0 (.q 9 0 (.q 10 0 (.q 11 0 (.q 12 0 (.q 13 0 (.q 14 0 (.q 15 0 (.q 16 0 (.q 17 0 (.q 18 0 (.q 19 0 (.q 20 0 (.q 21 0 (.q 22 0 (.q 23 0 (.q 24 0 (.q 25 0 (.q 26 0 (.q 27 0 (.q 28 0 (.q 29 0 (.e 30 1 (.q 31 1 (.done))))))))))))))))))))))))))))))))) (by kernel_rfl) ?_ ?_
                          · exact fun _ _ => HC5.out
                          repeat (first
                            | (refine Rg.q (o := ?_) (v := ?_) ?_ ?_ ?_ ?_ ?_
                               rotate_left 2
                               · (simp only [List.getElem?_toArray, List.getElem?_cons_succ, List.getElem?_cons_zero]; rfl)
                               · exact fun _ _ _ h => h
                               · first | rfl | (go_simp; done)
                               · (intro x_ hx; (try dsimp only at hx); (try have q0 := (hx (by decide)).1; try have q1 := (hx (by decide)).2.1; try have q2 := (hx (by decide)).2.2.1; try have q3 := (hx (by decide)).2.2.2.1; try have q4 := (hx (by decide)).2.2.2.2.1; try have q5 := (hx (by decide)).2.2.2.2.2.1; try have q6 := (hx (by decide)).2.2.2.2.2.2; clear hx); go_simp; (try rw [if_neg (by omega)]); (try rw [if_pos (by omega)]); (try go_simp); try with_reducible rfl)
                               try simp only [Act.put, List.setIfInBounds_toArray, List.set_cons_zero, List.set_cons_succ])
                            | (refine Rg.skip (o := ?_) ?_ ?_ ?_ ?_
                               rotate_left 1
                               · (simp only [List.getElem?_toArray, List.getElem?_cons_succ, List.getElem?_cons_zero]; rfl)
                               · exact fun _ _ _ h => h
                               · first | rfl | (go_simp; done)
                               try simp only [Act.put, List.setIfInBounds_toArray, List.set_cons_zero, List.set_cons_succ]))
                          refine Rg.e (o := ?_) ?_ ?_
                          rotate_left 1
                          · (simp only [List.getElem?_toArray, List.getElem?_cons_succ, List.getElem?_cons_zero]; rfl)
                          intro K hK
                          go_simp
                          rw [sum_form N1 N2 _ _ HM1.out HM2.out hl1 (by omega), sum_form s.d.toNat N1 s.d _ (word_mod _) HM1.out (Nat.lt_trans (u32_lt _) (by decide)) hl1]
                          refine hK.out _ _ (fun _ _ => True) (fun k x hk h h2 => absurd (Nat.le_trans hk h2) (by decide)) ?_ ?_
                          · exact fun _ _ => trivial
                          try simp only [Act.put, List.setIfInBounds_toArray, List.set_cons_zero, List.set_cons_succ]
                          repeat (first
                            | (refine Rg.q (o := ?_) (v := ?_) ?_ ?_ ?_ ?_ ?_
                               rotate_left 2
                               · (simp only [List.getElem?_toArray, List.getElem?_cons_succ, List.getElem?_cons_zero]; rfl)
                               · exact fun _ _ _ h => h
                               · first | rfl | (go_simp; done)
                               · (intro x_ hx; (try dsimp only at hx); (clear hx); go_simp; (try rw [if_neg (by omega)]); (try rw [if_pos (by omega)]); (try go_simp); try with_reducible rfl)
                               try simp only [Act.put, List.setIfInBounds_toArray, List.set_cons_zero, List.set_cons_succ])
                            | (refine Rg.skip (o := ?_) ?_ ?_ ?_ ?_
                               rotate_left 1
                               · (simp only [List.getElem?_toArray, List.getElem?_cons_succ, List.getElem?_cons_zero]; rfl)
                               · exact fun _ _ _ h => h
                               · first | rfl | (go_simp; done)
                               try simp only [Act.put, List.setIfInBounds_toArray, List.set_cons_zero, List.set_cons_succ]))
                          refine Rg.done ?_
                          go_simp
                          clear hl1 hl2
                          have hsz := HQ.out.size
                          have hrs : rounds (sched b64 64) st (i + 1) = round s kx y := by rw [rounds, HS.out, HKX.out, HX.out]
                          have HRS := Aside0.mk hrs
                          clear hrs
                          go_wp2
                          first
                            | refine HK7.out _ _ (by unfold keeps; kernel_rfl) ?rel ?measure
                            | refine HK6.out _ _ (by unfold keeps; kernel_rfl) ?rel ?measure
                            | refine HK5.out _ _ (by unfold keeps; kernel_rfl) ?rel ?measure
                            | refine HK4.out _ _ (by unfold keeps; kernel_rfl) ?rel ?measure
                            | refine HK3.out _ _ (by unfold keeps; kernel_rfl) ?rel ?measure
                            | refine HK2.out _ _ (by unfold keeps; kernel_rfl) ?rel ?measure
                            | refine HK1.out _ _ (by unfold keeps; kernel_rfl) ?rel ?measure
                          all_goals try dsimp only [List.getD_cons_zero, List.getD_cons_succ]
                          case rel =>
                            refine ⟨i + 1, wr.heap.size, 8, by go_num, by omega, rfl, hsz, ⟨?_⟩, ⟨?_⟩⟩
                            · rw [HRS.out]
                              intro k hk
                              exact Wq.cell (wq_new _ _ rfl (round s kx y).list) k (by rw [rounds_len]; exact hk)
                            · repeat (first | refine Fr.drewN ?_ _ | refine Fr.drew ?_)
                              refine Fr.alloc ?_ _
                              repeat (first | refine Fr.drewN ?_ _ | refine Fr.drew ?_)
                              exact HQ.out
                          case measure => simp [intOf]; omega
                        · have hI64 : ¬ (i : Int) < 64 := by omega
                          obtain rfl : i = 64 := by omega
                          obtain ⟨t, ht⟩ : ∃ t, rounds (sched b64 64) st 64 = t := ⟨_, rfl⟩
                          rw [ht] at HV
                          have HT := Aside0.mk ht
                          have hghw : gh < wc.heap.size := (HR.out.2.1.no HF.out).lt
                          have hne : gh ≠ gv := by omega
                          clear ht
                          have A0 : Aside0 (Wq wr gh (addl st.list t.list 0)) := ⟨HH.out.no HQ.out⟩
                          have FQ : Aside0 (Fr (one gh) wc wr) := ⟨HQ.out.mono (fun _ _ h => h.elim)⟩
                          clear HQ
                          go_wp2_with fail
                          refine wp_loopf (none :: none :: none :: none :: none :: none :: none :: none :: none :: none :: none :: none :: none :: none :: none :: none :: none :: none :: none :: none :: none :: none :: some 22 :: none :: none :: none :: none :: none :: none :: none :: none :: none :: none :: none :: none :: none :: none :: none :: none :: none :: none :: none :: none :: none :: none :: none :: none :: none :: none :: none :: none :: none :: none :: none :: none :: none :: none :: none :: none :: none :: none :: none :: none :: none :: none :: none :: none :: none :: none :: none :: none :: none :: none :: none :: none :: none :: none :: none :: none :: none :: none :: none :: none :: none :: none :: none :: none :: none :: none :: none :: none :: none :: none :: none :: none :: none :: none :: none :: none :: none :: none :: none :: none :: none :: none :: none :: none :: none :: none :: none :: none :: none :: none :: none :: none :: none :: none :: none :: none :: none :: none :: none :: none :: none :: none :: none :: none :: none :: none :: none :: none :: none :: none :: none :: none :: none :: none :: none :: none :: none :: none :: none :: none :: none :: none :: none :: none :: none :: none :: none :: none :: none :: none :: none :: none :: none :: none :: none :: none :: none :: none :: none :: none :: none :: none :: none :: none :: none :: none :: none :: none :: none :: none :: none :: none :: none :: none :: none :: none :: none :: none :: none :: none :: none :: none :: none :: none :: none :: none :: none :: none :: none :: none :: none :: none :: none :: none :: none :: none :: none :: none :: none :: none :: none :: none :: none :: none :: none :: none :: none :: none :: none :: none :: none :: none :: none :: none :: none :: none :: none :: none :: none :: none :: none :: none :: none :: none :: none :: none :: none :: none :: none :: none :: none :: none :: none :: none :: none :: none :: none :: none :: none :: none :: none :: none :: none :: none :: none :: none :: none :: none :: none :: none :: none :: none :: none :: none :: none :: none :: none :: none :: some 261 :: some 262 :: some 263 :: some 264 :: some 265 :: some 266 :: some 267 :: some 268 :: some 269 :: some 270 :: some 271 :: some 272 :: some 273 :: some 274 :: some 275 :: some 276 :: some 277 :: some 278 :: none :: none :: none :: none :: none :: none :: none :: none :: none :: none :: none :: none :: none :: none :: none :: none :: none :: none :: none :: none :: []) (fun f wr => (fun v22 wr => ∃ i : Nat, v22 = .int .i64 (i : Int) ∧ i ≤ 8 ∧ Aside0 (Wq wr gh (addl st.list t.list i)) ∧ Aside0 (Vq wr gv t) ∧ Aside0 (Fr (one gh) wc wr)) (f 22) wr) (fun f wr => (fun v22 _ => 8 - (intOf v22).toNat) (f 22) wr) (by kernel_rfl) ?atStart ?round
                          case' atStart => try dsimp only [List.getD_cons_zero, List.getD_cons_succ]
                          case' round =>
                            intro f wr KR hrel HK8
                            try dsimp only at hrel
                            dsimp only [over]
                            generalize f 22 = u22 at hrel HK8 ⊢
                          case atStart => exact ⟨0, rfl, by omega, A0, HV, FQ⟩
                          case round =>
                            clear A0 HV FQ
                            obtain ⟨i, rfl, hi, HA, HV, HQ⟩ := hrel
                            by_cases hi8 : i < 8
                            · have hI8 : (i : Int) < 8 := by omega
                              obtain ⟨x, hx⟩ : ∃ x, st.list.getD i 0 = x := ⟨_, rfl⟩
                              obtain ⟨y, hy⟩ : ∃ y, t.list.getD i 0 = y := ⟨_, rfl⟩
                              have c1 := HA.out.cell i (by rw [addl_length st.list t.list i rfl (by rw [rounds_len]; omega), rounds_len]; exact hi8)
                              rw [addl_get st.list t.list i rfl (by rw [rounds_len]; exact hi8), hx] at c1
                              have c2 := HV.out i hi8
                              rw [hy] at c2
                              have e1 : wr.frozen? ⟨gh, i, Option.none⟩ = false := HA.out.frozen i
                              have HC : Aside0 (wr.cell? ⟨gh, i, Option.none⟩ = some (vw x) ∧ wr.cell? ⟨gv, i, Option.none⟩ = some (vw y) ∧ wr.frozen? ⟨gh, i, Option.none⟩ = false) := ⟨c1, c2, e1⟩
                              have HX := Aside0.mk hx; have HY := Aside0.mk hy
                              clear hx hy c1 c2 e1
                              go_wp2_with fail
                              refine Rg.start (fun k' z => k' ≤ 0 → z.cell? ⟨gh, i, Option.none⟩ = some (vw x) ∧ z.cell? ⟨gv, i, Option.none⟩ = some (vw y)) (by kernel_rfl) (by kernel_rfl) [14] [[12, 11, 10, 9, 8, 7, 6, 5, 4, 3, 2, 1, 0, 13, 14]] (by kernel_rfl) (.q 0 0 (.q 1 0 (.q 2 0 (.q 3 0 (.q 4 0 (.q 5 0 (.q 6 0 (.q 7 0 (.q 8 0 (.q 9 0 (.q 10 0 (.q 11 0 (.q 12 0 (.q 13 0 (.e 14 1 (.done)))))))))))))))) (by kernel_rfl) ?_ ?_
                              · exact fun _ _ => ⟨HC.out.1, HC.out.2.1⟩
                              repeat (first
                                | (refine Rg.q (o := ?_) (v := ?_) ?_ ?_ ?_ ?_ ?_
                                   rotate_left 2
                                   · (simp only [List.getElem?_toArray, List.getElem?_cons_succ, List.getElem?_cons_zero]; rfl)
                                   · exact fun _ _ _ h => h
                                   · first | rfl | (go_simp; done)
                                   · (intro x_ hx; (try dsimp only at hx); (have q1 := (hx (by decide)).1; have q2 := (hx (by decide)).2; clear hx); go_simp; (try rw [if_neg (by omega)]); (try rw [if_pos (by omega)]); (try go_simp); try with_reducible rfl)
                                   try simp only [Act.put, List.setIfInBounds_toArray, List.set_cons_zero, List.set_cons_succ])
                                | (refine Rg.skip (o := ?_) ?_ ?_ ?_ ?_
                                   rotate_left 1
                                   · (simp only [List.getElem?_toArray, List.getElem?_cons_succ, List.getElem?_cons_zero]; rfl)
                                   · exact fun _ _ _ h => h
                                   · first | rfl | (go_simp; done)
                                   try simp only [Act.put, List.setIfInBounds_toArray, List.set_cons_zero, List.set_cons_succ]))
                              have c1 := HC.out.1; have e1 := HC.out.2.2
                              refine Rg.e (o := ?_) ?_ ?_
                              rotate_left 1
                              · (simp only [List.getElem?_toArray, List.getElem?_cons_succ, List.getElem?_cons_zero]; rfl)
                              intro K hK
                              go_simp
                              clear c1 e1
                              rw [sum_form x.toNat y.toNat x y (word_mod _) (word_mod _) (Nat.lt_trans (u32_lt _) (by decide)) (Nat.lt_trans (u32_lt _) (by decide))]
                              refine hK.out _ _ (fun _ _ => True) (fun k x hk h h2 => absurd (Nat.le_trans hk h2) (by decide)) ?_ ?_
                              · exact fun _ _ => trivial
                              try simp only [Act.put, List.setIfInBounds_toArray, List.set_cons_zero, List.set_cons_succ]
                              refine Rg.done ?_
                              go_simp
                              have HA2 : Aside0 (Wq (wr.setCell ⟨gh, i, Option.none⟩ (vw (x + y))) gh (addl st.list t.list (i + 1))) := ⟨by
                                have h := HA.out.set i (x + y)
                                rw [← HX.out, ← HY.out, addl_step st.list t.list i rfl (by rw [rounds_len]; exact hi8), HX.out, HY.out] at h
                                exact h⟩
                              have HV2 : Aside0 (Vq (wr.setCell ⟨gh, i, Option.none⟩ (vw (x + y))) gv t) := ⟨HV.out.fr (fr_one_set wr gh i _) (fun e => hne (show gv = gh from e).symm)⟩
                              go_wp2
                              first
                                | refine HK8.out _ _ (by unfold keeps; kernel_rfl) ?rel ?measure
                                | refine HK7.out _ _ (by unfold keeps; kernel_rfl) ?rel ?measure
                                | refine HK6.out _ _ (by unfold keeps; kernel_rfl) ?rel ?measure
                                | refine HK5.out _ _ (by unfold keeps; kernel_rfl) ?rel ?measure
                                | refine HK4.out _ _ (by unfold keeps; kernel_rfl) ?rel ?measure
                                | refine HK3.out _ _ (by unfold keeps; kernel_rfl) ?rel ?measure
                                | refine HK2.out _ _ (by unfold keeps; kernel_rfl) ?rel ?measure
                                | refine HK1.out _ _ (by unfold keeps; kernel_rfl) ?rel ?measure
                              all_goals try dsimp only [List.getD_cons_zero, List.getD_cons_succ]
                              case rel =>
                                refine ⟨i + 1, by go_num, by omega, ⟨HA2.out⟩, ⟨HV2.out⟩, ⟨?_⟩⟩
                                repeat (first | refine Fr.drewN ?_ _ | refine Fr.drew ?_)
                                exact HQ.out.setCell (p := ⟨gh, i, Option.none⟩) (.inl (show one gh gh from rfl)) _
                              case measure => simp [intOf]; omega
                            · have hI8 : ¬ (i : Int) < 8 := by omega
                              obtain rfl : i = 8 := by omega
                              have hR2 : RSt w gh gk wr (.slice (some ⟨gb, 0, Option.none⟩) n c3) M (j + 1) := by
                                obtain ⟨r1, r2, r3, r4, r5⟩ := HR.out
                                have hb := r1.no HF.out
                                refine ⟨hb.one (r2.no HF.out) r4 HQ.out, ?_, (r3.no HF.out).fr HQ.out (fun e => r5 (show gk = gh from e).symm), r4, r5⟩
                                have h := HA.out
                                rw [addl_end, ← HT.out] at h
                                rw [run_next, HST.out, HB64.out]
                                exact h
                              have hj2 : ∃ j', at0 + 64 = 64 * j' ∧ j' ≤ q ∧ RSt w gh gk wr (.slice (some ⟨gb, 0, Option.none⟩) n c3) M j' := ⟨j + 1, by have := HJ.out; omega, by have := HJ.out; have := HNQ.out; omega, hR2⟩
                              have HJ2 := Aside0.mk hj2
                              clear hR2 hj2 HA HV HQ
                              go_wp2
                              first
                                | refine HK8.out _ _ (by unfold keeps; kernel_rfl) ?rel ?measure
                                | refine HK7.out _ _ (by unfold keeps; kernel_rfl) ?rel ?measure
                                | refine HK6.out _ _ (by unfold keeps; kernel_rfl) ?rel ?measure
                                | refine HK5.out _ _ (by unfold keeps; kernel_rfl) ?rel ?measure
                                | refine HK4.out _ _ (by unfold keeps; kernel_rfl) ?rel ?measure
                                | refine HK3.out _ _ (by unfold keeps; kernel_rfl) ?rel ?measure
                                | refine HK2.out _ _ (by unfold keeps; kernel_rfl) ?rel ?measure
                                | refine HK1.out _ _ (by unfold keeps; kernel_rfl) ?rel ?measure
                              all_goals try dsimp only [List.getD_cons_zero, List.getD_cons_succ]
                              case rel => exact ⟨at0 + 64, by go_num, by omega, HJ2⟩
                              case measure => simp [intOf]; omega
            · have hJ : ¬ (at0 : Int) < (n : Int) := by omega
              have hnq := HNQ.out
              have hjq2 : j = q := by omega
              obtain ⟨s5, hs5⟩ : ∃ s5, run j (St.of H0) M = s5 := ⟨_, rfl⟩
              have hsha : sha m = bytes s5 := by
                rw [← hs5, hjq2, ← HMP.out]
                show bytes (run ((pad m).length / 64) (St.of H0) (pad m)) = _
                rw [HMP.out, HN3.out, hnq, Nat.mul_div_cancel_left q (by decide)]
              have hW5 := HR.out.2.1
              rw [hs5] at hW5
              obtain ⟨_, _, hF5, cs5, hc6, hc7⟩ := HR.out.1
              have HSH := Aside0.mk hsha; have HW5 := Aside0.mk hW5; have HF5 := Aside0.mk hF5; have HC5 := Aside0.mk (And.intro hc6 hc7)
              clear hnq hjq2 hs5 hsha hW5 hF5 hc6 hc7 HR hj64 hj
              obtain ⟨zo, hzo⟩ : ∃ zo : Array Value, zo = ((List.replicate 32 (0 : UInt8)).map vu8).toArray := ⟨_, rfl⟩
              have HZO := Aside0.mk hzo
              clear hzo
              go_wp2_with (first
                | (refine stepB (.agg zo) _ _ rfl rfl (by rw [HZO.out]; kernel_rfl) ?_)
                | (refine PB.stRow (.tmp 23) (.tmp 279) 38 wa.heap.size 38 _ zo rfl rfl rfl rfl (heap_alloc_new wa _) (by rw [HZO.out]; kernel_rfl) (by rw [HZO.out]; kernel_rfl) (by rw [HZO.out]; kernel_rfl) ?_))
              rw [World.setRow_alloc_new]
              have B1 : Aside0 (Bd (wa.alloc (.cells zo 38)) wa.heap.size 38 (List.replicate 32 0)) := ⟨by rw [HZO.out]; exact bd_new wa _ _ rfl _⟩
              have F1 : Aside0 (Fr No wa (wa.alloc (.cells zo 38))) := ⟨(Fr.refl _ _).alloc _⟩
              generalize wa.alloc (.cells zo 38) = w5 at B1 F1 ⊢
              have hbl := bytes_length s5
              have HBL := Aside0.mk hbl
              clear hbl
              refine wp_loopf (none :: none :: none :: none :: none :: none :: none :: none :: none :: none :: none :: none :: none :: none :: none :: none :: none :: none :: none :: none :: none :: none :: none :: none :: some 24 :: none :: none :: none :: none :: none :: none :: none :: none :: none :: none :: none :: none :: none :: none :: none :: none :: none :: none :: none :: none :: none :: none :: none :: none :: none :: none :: none :: none :: none :: none :: none :: none :: none :: none :: none :: none :: none :: none :: none :: none :: none :: none :: none :: none :: none :: none :: none :: none :: none :: none :: none :: none :: none :: none :: none :: none :: none :: none :: none :: none :: none :: none :: none :: none :: none :: none :: none :: none :: none :: none :: none :: none :: none :: none :: none :: none :: none :: none :: none :: none :: none :: none :: none :: none :: none :: none :: none :: none :: none :: none :: none :: none :: none :: none :: none :: none :: none :: none :: none :: none :: none :: none :: none :: none :: none :: none :: none :: none :: none :: none :: none :: none :: none :: none :: none :: none :: none :: none :: none :: none :: none :: none :: none :: none :: none :: none :: none :: none :: none :: none :: none :: none :: none :: none :: none :: none :: none :: none :: none :: none :: none :: none :: none :: none :: none :: none :: none :: none :: none :: none :: none :: none :: none :: none :: none :: none :: none :: none :: none :: none :: none :: none :: none :: none :: none :: none :: none :: none :: none :: none :: none :: none :: none :: none :: none :: none :: none :: none :: none :: none :: none :: none :: none :: none :: none :: none :: none :: none :: none :: none :: none :: none :: none :: none :: none :: none :: none :: none :: none :: none :: none :: none :: none :: none :: none :: none :: none :: none :: none :: none :: none :: none :: none :: none :: none :: none :: none :: none :: none :: none :: none :: none :: none :: none :: none :: none :: none :: none :: none :: none :: none :: none :: none :: none :: none :: none :: none :: none :: none :: none :: none :: none :: none :: none :: none :: none :: none :: none :: none :: none :: none :: none :: none :: none :: none :: some 280 :: some 281 :: some 282 :: some 283 :: some 284 :: some 285 :: some 286 :: some 287 :: some 288 :: some 289 :: some 290 :: some 291 :: some 292 :: some 293 :: some 294 :: some 295 :: some 296 :: some 297 :: none :: []) (fun f wr => (fun v24 wq => ∃ i : Nat, v24 = .int .i64 (i : Int) ∧ i ≤ 32 ∧ Aside0 (Bd wq wa.heap.size 38 ((bytes s5).take i ++ List.replicate (32 - i) 0)) ∧ Aside0 (Fr No wa wq)) (f 24) wr) (fun f wr => (fun v24 _ => 32 - (intOf v24).toNat) (f 24) wr) (by kernel_rfl) ?atStart ?round
              case' atStart => try dsimp only [List.getD_cons_zero, List.getD_cons_succ]
              case' round =>
                intro f wr KR hrel HK9
                try dsimp only at hrel
                dsimp only [over]
                generalize f 24 = u24 at hrel HK9 ⊢
              case atStart => exact ⟨0, rfl, by omega, B1, F1⟩
              case round =>
                obtain ⟨i, rfl, hi, HB, HF⟩ := hrel
                clear B1 F1
                by_cases hi32 : i < 32
                · have hI : (i : Int) < 32 := by omega
                  obtain ⟨x, hx⟩ : ∃ x, s5.list.getD (i / 4) 0 = x := ⟨_, rfl⟩
                  have hc := (HW5.out.no HF.out).cell (i / 4) (by rw [rounds_len]; omega)
                  rw [hx] at hc
                  have hy := bytes_get s5 i hi32
                  rw [hx] at hy
                  obtain ⟨y, hy2⟩ : ∃ y, (bytes s5).getD i 0 = y := ⟨_, rfl⟩
                  rw [hy2] at hy
                  have HY := Aside0.mk hy; have HY2 := Aside0.mk hy2
                  clear hy hy2 hx
                  have hq1 : ((i : Int) / 4).toNat = i / 4 := by omega
                  have hcd : wr.cell? ⟨wa.heap.size, i, Option.none⟩ = some (vu8 (((bytes s5).take i ++ List.replicate (32 - i) 0).getD i 0)) := HB.out.cell i (by simp [HBL.out]; omega)
                  have hfd : wr.frozen? ⟨wa.heap.size, i, Option.none⟩ = false := HB.out.frozen i
                  have hx32 := u32_lt x
                  go_wp2
                  rw [byte_form2 x _ (by omega), ← HY.out]
                  have HB2 : Aside0 (Bd (wr.setCell ⟨wa.heap.size, i, Option.none⟩ (vu8 y)) wa.heap.size 38 ((bytes s5).take (i + 1) ++ List.replicate (32 - (i + 1)) 0)) := ⟨by
                    have h := HB.out.set i y
                    rw [← HY2.out, set_pre (bytes s5) 32 i HBL.out hi32, HY2.out] at h
                    exact h⟩
                  have HF2 : Aside0 (Fr No wa (wr.setCell ⟨wa.heap.size, i, Option.none⟩ (vu8 y))) := ⟨HF.out.setCell (p := ⟨wa.heap.size, i, Option.none⟩) (.inr (Nat.le_refl _)) _⟩
                  clear HB HF hcd hfd hc hx32
                  first
                    | refine HK9.out _ _ (by unfold keeps; kernel_rfl) ?rel ?measure
                    | refine HK8.out _ _ (by unfold keeps; kernel_rfl) ?rel ?measure
                    | refine HK7.out _ _ (by unfold keeps; kernel_rfl) ?rel ?measure
                    | refine HK6.out _ _ (by unfold keeps; kernel_rfl) ?rel ?measure
                    | refine HK5.out _ _ (by unfold keeps; kernel_rfl) ?rel ?measure
                    | refine HK4.out _ _ (by unfold keeps; kernel_rfl) ?rel ?measure
                    | refine HK3.out _ _ (by unfold keeps; kernel_rfl) ?rel ?measure
                    | refine HK2.out _ _ (by unfold keeps; kernel_rfl) ?rel ?measure
                    | refine HK1.out _ _ (by unfold keeps; kernel_rfl) ?rel ?measure
                  all_goals try dsimp only [List.getD_cons_zero, List.getD_cons_succ]
                  case rel => exact ⟨i + 1, by go_num, by omega, HB2, HF2⟩
                  case measure => simp [intOf]; omega
                · have hI : ¬ (i : Int) < 32 := by omega
                  obtain rfl : i = 32 := by omega
                  have hB : Bd wr wa.heap.size 38 (bytes s5) := by
                    have h := HB.out
                    rw [List.take_of_length_le (by rw [HBL.out]; exact Nat.le_refl _)] at h
                    simpa using h
                  have HB2 := Aside0.mk hB
                  have hc6 := HF.out.heap HC5.out.1 id
                  have HC6 := Aside0.mk hc6
                  clear HB hB hc6
                  go_wp2_with (first
                    | (refine PB.ldRow (.tmp 23) 38 wa.heap.size 38 ((bytes s5).map vu8).toArray (0, 0) _ rfl rfl rfl HB2.out Tryd.underlying38 ⟨_, _, rfl⟩ (by kernel_rfl) ?_)
                    | (refine PB.stRow (.tmp 2) (.tmp 298) 38 w.heap.size 38 cs5 ((bytes s5).map vu8).toArray rfl rfl rfl rfl HC6.out (by kernel_rfl) (by rw [HC5.out.2]; rfl) (by kernel_rfl) ?_))
                  refine bodyPost_ret (results_cell_row (P := Tryd.prog) (fn := Tryd.f20) (p := 2) (ty := 38) rfl _ _ w.heap.size 38 ((bytes s5).map vu8).toArray (0, 0) _ rfl (setRow_heap _ _ _ _ _ _ HC6.out) Tryd.underlying38 rfl (by kernel_rfl)) rfl ⟨?_, ?_⟩
                  · rw [HSH.out]; rfl
                  · exact fr_setRow (HF5.out.none HF.out) (.inr (Nat.le_refl _)) _
    · have h56 : n % 64 ≠ 56 := fun h => hze2 (hze.1 (by omega))
      have hI : ((n : Int) % 64 != 56) = true := by
        rw [show (n : Int) % 64 = ((n % 64 : Nat) : Int) from rfl, bne_iff_ne]
        omega
      have hz2 : z + 1 ≤ zeros m.length := by omega
      have hn2 : n + 1 ≤ 140737488355328 := by omega
      have hs : n + 1 ≤ m.length + 200 := by omega
      clear hze2 h56 hlen hnn hM hze hMl
      go_wp2_with (at_builtin; refine apZ1 _ M 0 0 rfl (.tmp 33) (.tmp 34) rfl rfl rfl (by decide) HS.out.1 (by rw [HNN.out]; exact hn2) ?_; intro v1 w1 hq1 hF1 hA1)
      have S1 : Aside0 (Bz w w1 v1 (m ++ [128] ++ List.replicate (z + 1) 0)) := ⟨by
        rw [List.replicate_succ', ← List.append_assoc, HM3.out]
        exact HS.out.app hq1 hF1 hA1⟩
      have hml : lenV2 v1 = n + 1 := by
        obtain ⟨A6, c6, rfl, _⟩ := hq1.form
        have := HNN.out
        simp only [lenV2, List.length_append, List.length_cons, List.length_nil]
        omega
      have HML := Aside0.mk hml
      clear HS hq1 hF1 hA1 hml
      first
        | refine HK9.out _ _ (by unfold keeps; kernel_rfl) ?rel ?measure
        | refine HK8.out _ _ (by unfold keeps; kernel_rfl) ?rel ?measure
        | refine HK7.out _ _ (by unfold keeps; kernel_rfl) ?rel ?measure
        | refine HK6.out _ _ (by unfold keeps; kernel_rfl) ?rel ?measure
        | refine HK5.out _ _ (by unfold keeps; kernel_rfl) ?rel ?measure
        | refine HK4.out _ _ (by unfold keeps; kernel_rfl) ?rel ?measure
        | refine HK3.out _ _ (by unfold keeps; kernel_rfl) ?rel ?measure
        | refine HK2.out _ _ (by unfold keeps; kernel_rfl) ?rel ?measure
        | refine HK1.out _ _ (by unfold keeps; kernel_rfl) ?rel ?measure
      all_goals try dsimp only [List.getD_cons_zero, List.getD_cons_succ]
      case rel => exact ⟨z + 1, hz2, S1⟩
      case measure => show m.length + 200 - lenV2 v1 < _; rw [HML.out]; simp only [lenV2]; have := HNN.out; omega
end Go.Proofs.YtnfneokmiopieaaDoor.Sha
