/- A module's users: a user's secret. -/
import Derived.Test.YtdicjcpcohclaaaPB
set_option linter.unusedVariables false
set_option linter.unusedSimpArgs false
namespace Go.Proofs.Ytdicjcpcohclaaa.Auth
open Go.RowKit Go.Proofs.YtdicjcpcohclaaaW.PrintWords Go.Proofs.Ytdicjcpcohclaaa.B Go.Proofs.Ytdicjcpcohclaaa.PB

/-- A user: name, secret. -/
structure US where
  nm : List UInt8
  sc : List UInt8
def fU : Fl US := ⟨2, fun u => [.string (bstr u.nm), .string (bstr u.sc)], fun _ => rfl, fun u x hx => by
  rcases List.mem_cons.1 hx with rfl | hx
  · rfl
  · rcases List.mem_cons.1 hx with rfl | hx
    · rfl
    · cases hx⟩
/-- A module, with its users' slice. -/
structure MD where
  nm : List UInt8
  root : List UInt8
  wr : Bool
  sl : Int
  qu : Int
  A : Option Addr
  c : Nat
  us : List US
def MD.uv (m : MD) : Value := .slice m.A m.us.length m.c
def MD.cells (m : MD) : List Value := [.string (bstr m.nm), .string (bstr m.root), .bool m.wr, .int .i64 m.sl, .int .i64 m.qu, m.uv]
def MD.v (m : MD) : Value := .agg m.cells.toArray
def MD.ok (w : World) (m : MD) : Prop := Rd fU w m.uv m.us
def sec (us : List US) (nm : List UInt8) : Option (List UInt8) := (us.find? (·.nm == nm)).map (·.sc)
theorem sec_drop (us : List US) (nm : List UInt8) (j : Nat) (u : US) (h : us[j]? = some u) : sec (us.drop j) nm = if u.nm == nm then some u.sc else sec (us.drop (j + 1)) nm := by
  obtain ⟨hj, rfl⟩ := List.getElem?_eq_some_iff.1 h
  rw [List.drop_eq_getElem_cons hj, sec, List.find?_cons]
  split <;> simp_all [sec]
set_option maxHeartbeats 4000000 in
set_option maxRecDepth 100000 in
theorem secret_calls (m : MD) (nm : List UInt8) (w : World) (hm : m.ok w) : Calls Try.prog 46 #[m.v, .string (bstr nm)] w fun e w' => e = .returned (.tuple #[.string (bstr ((sec m.us nm).getD [])), .bool (sec m.us nm).isSome]) ∧ Fr No w w' := by
  obtain ⟨A', c', he, hlc, hcm, hcell⟩ := id hm
  obtain ⟨e1, _, e3⟩ : m.A = A' ∧ m.us.length = m.us.length ∧ m.c = c' := by injection he with e1 e2 e3; exact ⟨e1, rfl, e3⟩
  have HM := Aside0.mk hm; have HC := Aside0.mk hcell; have E1 := Aside0.mk e1
  simp only [maxLen] at hcm
  clear hm hcell he e1
  unfold MD.v MD.cells MD.uv
  go_enter Try.func46, Try.ntmps46
  go_wp2
  go_loopw [11] (fun v11 wr => ∃ j : Nat, v11 = .int .i64 j ∧ j ≤ m.us.length ∧ Aside0 (sec m.us nm = sec (m.us.drop j) nm) ∧ Aside0 (Fr No w wr)) (fun v11 _ => m.us.length - (intOf v11).toNat)
  case atStart => exact ⟨0, rfl, by omega, ⟨rfl⟩, ⟨(Fr.refl _ _).alloc _⟩⟩
  case round =>
    obtain ⟨j, rfl, hj, HS, HF⟩ := hrel
    by_cases hjl : j < m.us.length
    · have hjI : (j : Int) < (m.us.length : Int) := by omega
      obtain ⟨ad, hA, hc⟩ := HC.out (by omega)
      rw [← E1.out] at hA
      obtain ⟨u, hu⟩ : ∃ u, m.us[j]? = some u := ⟨_, List.getElem?_eq_getElem hjl⟩
      have hcj : ∀ i x, (fU.enc u)[i]? = some x → wr.cell? ((ad.add (j * 2)).add i) = some x := fun i x hx => by
        rw [add_add]
        refine HF.out.cell (hc _ _ ?_) id
        have hi : i < 2 := (List.getElem?_eq_some_iff.1 hx).1
        have := fU.cells_get m.us j u hu i hi
        rw [show j * fU.sz + i = j * 2 + i from rfl] at this
        rw [this, hx]
      have k0 : wr.cell? (ad.add (j * 2)) = some (.string (bstr u.nm)) := hcj 0 _ rfl
      have k1 : wr.cell? { block := (ad.add (j * 2)).block, off := (ad.add (j * 2)).off + 1 } = some (.string (bstr u.sc)) := hcj 1 _ rfl
      have hsd := Aside0.mk (sec_drop m.us nm j u hu)
      clear hcj hc
      by_cases hq : (u.nm == nm) = true
      · go_wp2
        (try simp only [Exit.inBlock, Exit.then]); refine bodyPost_ret (results_list (rs := [.tmp 4, .tmp 5]) rfl (by simp) (.tmp (.tmp .nil))) rfl ?_
        have hs := hsd.out
        rw [if_pos hq, ← HS.out] at hs
        rw [hs]
        exact ⟨rfl, HF.out.alloc _⟩
      · have hq2 : (u.nm == nm) = false := by simpa using hq
        go_wp2
        go_roundw
        case rel =>
          have hs := hsd.out
          rw [if_neg hq, ← HS.out] at hs
          exact ⟨j + 1, by go_num, by omega, ⟨hs⟩, ⟨HF.out.alloc _⟩⟩
        case measure => simp [intOf]; omega
    · have hjI : ¬ (j : Int) < (m.us.length : Int) := by omega
      go_wp2
      (try simp only [Exit.inBlock, Exit.then]); refine bodyPost_ret (results_list (rs := [.tmp 4, .tmp 5]) rfl (by simp) (.tmp (.tmp .nil))) rfl ?_
      have hs := HS.out
      rw [show j = m.us.length by omega, List.drop_length] at hs
      rw [hs]
      exact ⟨rfl, HF.out⟩
end Go.Proofs.Ytdicjcpcohclaaa.Auth
