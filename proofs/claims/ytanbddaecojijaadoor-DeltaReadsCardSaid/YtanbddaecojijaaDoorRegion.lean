/- A region that draws its order, walked once: operations that yield their value in every world that meets S are taken as soon as they may come up; the others ('effects') come up one at a time, and S may say more behind each.
   S is told by a number: 'S u' is what holds until effect number u (from 0) is carried out; what holds for good is told for every u. An operation that effect number u waits for yields its value under 'S u'. No program. -/
import Derived.OrdersHeld
import Derived.Deep.RegionHeld
set_option linter.unusedVariables false
namespace Go.Proofs.YtanbddaecojijaaDoor.Rg
open Go

/-- An operation that may change the world: an effect. -/
def effect (o : Oper) : Bool :=
  match o.op with
  | .move _ | .assign _ | .pick .. | .load .. | .nilCheck _ | .binOp .. | .unOp .. | .convert .. | .fieldAddr .. | .field .. | .indexAddr .. | .index .. | .extract .. | .slice .. | .build .. | .makeInterface .. => false
  | .call { callee := .builtin .len, .. } | .call { callee := .builtin .cap, .. } | .call { callee := .builtin .min, .. } | .call { callee := .builtin .max, .. } => false
  | _ => true

/-- What operation j waits for. -/
def targets (ops : Array Oper) (j : Nat) : List Nat := ((ops[j]?).map fun o => (o.after.toList.filter (Region.binds .any)).map (·.on)).getD []
/-- .. and what that waits for. -/
def anc (ops : Array Oper) : Nat → List Nat → List Nat → List Nat
  | 0, _, seen => seen
  | _ + 1, [], seen => seen
  | f + 1, j :: st, seen => if seen.contains j then anc ops f st seen else anc ops f (targets ops j ++ st) (j :: seen)
/-- How many of the effects E, from the first on, have been carried out. -/
def ph : List Nat → Array Bool → Nat
  | [], _ => 0
  | j :: E, l => if l.getD j false = true then ph E l + 1 else 0
/-- The first effect that waits for i. -/
def unt (A : List (List Nat)) (i : Nat) : Nat := A.findIdx (·.contains i)

/-- The walk's way: quiet operation i (surely done before effect number u) · effect i, behind which p effects are done · two effects, either of which may come up. -/
inductive T where
  | done
  | q (i u : Nat) (t : T)
  | e (i p : Nat) (t : T)
  | two (i p : Nat) (t : T) (j p' : Nat) (t' : T)

/-- What may come up and is no effect, first; then the one effect that may, or one of two. none: three effects may come up at once. -/
def plan (ops : Array Oper) (E : List Nat) (A : List (List Nat)) : Nat → Array Bool → Option T
  | 0, listed => if (Region.ready .any ops listed).isEmpty then some .done else none
  | fuel + 1, listed =>
    let rs := Region.ready .any ops listed
    match rs.find? (fun i => !((ops[i]?).map effect).getD true && (Region.free .any ops listed i && !E.contains i)) with
    | some i => (plan ops E A fuel (listed.setIfInBounds i true)).map (.q i (unt A i) ·)
    | none =>
      match rs with
      | [i] => (plan ops E A fuel (listed.setIfInBounds i true)).map (.e i (ph E (listed.setIfInBounds i true)) ·)
      | [] => some .done
      | [i, j] =>
        match plan ops E A fuel (listed.setIfInBounds i true), plan ops E A fuel (listed.setIfInBounds j true) with
        | some t, some t' => some (.two i (ph E (listed.setIfInBounds i true)) t j (ph E (listed.setIfInBounds j true)) t')
        | _, _ => none
      | _ => none

section
variable {P : Program} {ops : Array Oper} {Q : Exit → Act → World → Prop} {E : List Nat} {A : List (List Nat)}

def Closed (ops : Array Oper) (l : Array Bool) : Prop := ∀ j o, ops[j]? = some o → l.getD j false = true → ∀ e ∈ o.after, Region.binds .any e = true → l.getD e.on false = true
theorem getD_ne {l : Array Bool} {i j : Nat} (d : Bool) (h : i ≠ j) : (l.setIfInBounds i true).getD j d = l.getD j d := getD_set_ne d h
theorem Closed.set {l : Array Bool} {j : Nat} (h : Closed ops l) (hj : j ∈ Region.ready .any ops l) : Closed ops (l.setIfInBounds j true) := by
  intro k o ho hk e he hb
  by_cases hkj : k = j
  · subst hkj
    obtain ⟨_, o', ho', hall⟩ := mem_ready.1 hj
    rw [ho] at ho'
    injection ho' with ho'
    subst ho'
    exact getD_set_true (hall e he hb)
  · rw [getD_ne false (fun e => hkj e.symm)] at hk
    exact getD_set_true (h k o ho hk e he hb)
theorem anc_listed {l : Array Bool} (h : Closed ops l) : ∀ (f : Nat) (st seen : List Nat), (∀ j ∈ st, l.getD j false = true) → (∀ j ∈ seen, l.getD j false = true) → ∀ i ∈ anc ops f st seen, l.getD i false = true := by
  intro f
  induction f with
  | zero => intro st seen _ h2 i hi; exact h2 i (by simpa [anc] using hi)
  | succ f ih =>
    intro st seen h1 h2 i hi
    cases st with
    | nil => exact h2 i (by simpa [anc] using hi)
    | cons j st =>
      rw [anc] at hi
      split at hi
      · exact ih st seen (fun k hk => h1 k (List.mem_cons_of_mem _ hk)) h2 i hi
      · refine ih _ _ (fun k hk => ?_) (fun k hk => ?_) i hi
        · rcases List.mem_append.1 hk with hk | hk
          · unfold targets at hk
            cases ho : ops[j]? with
            | none => simp [ho] at hk
            | some o =>
              simp [ho] at hk
              obtain ⟨e, ⟨he, hb⟩, rfl⟩ := hk
              exact h j o ho (h1 j List.mem_cons_self) e (by simpa using he) hb
          · exact h1 k (List.mem_cons_of_mem _ hk)
        · rcases List.mem_cons.1 hk with rfl | hk
          · exact h1 _ List.mem_cons_self
          · exact h2 k hk
theorem ph_set {l : Array Bool} {i : Nat} : ∀ {E : List Nat}, i ∉ E → ph E (l.setIfInBounds i true) = ph E l
  | [], _ => rfl
  | j :: E, h => by
    have h1 : i ≠ j := fun e => h (e ▸ List.mem_cons_self)
    simp only [ph, getD_ne false h1, ph_set (E := E) (fun e => h (List.mem_cons_of_mem _ e))]
theorem ph_le : ∀ {E : List Nat} {l : Array Bool}, ph E l ≤ E.length
  | [], _ => Nat.le_refl _
  | j :: E, l => by unfold ph; split; · exact Nat.succ_le_succ ph_le
                    · exact Nat.zero_le _
theorem ph_un : ∀ {E : List Nat} {l : Array Bool} {u j : Nat}, E[u]? = some j → l.getD j false = false → ph E l ≤ u
  | [], _, _, _, h, _ => by cases h
  | k :: E, l, 0, j, h, hl => by
    simp at h
    subst h
    unfold ph
    rw [if_neg (by rw [hl]; decide)]
    exact Nat.le_refl _
  | k :: E, l, u + 1, j, h, hl => by
    unfold ph
    split
    · exact Nat.succ_le_succ (ph_un (by simpa using h) hl)
    · exact Nat.zero_le _
theorem un_spec (g : Nat → List Nat) (i : Nat) : ∀ E : List Nat, (E.map g).findIdx (·.contains i) < E.length → ∃ j, E[(E.map g).findIdx (·.contains i)]? = some j ∧ i ∈ g j
  | [], h => absurd h (Nat.not_lt_zero _)
  | k :: E, h => by
    rw [List.map_cons, List.findIdx_cons] at *
    by_cases hc : (g k).contains i = true
    · rw [hc]
      exact ⟨k, by simp, List.contains_iff_mem.1 hc⟩
    · have hc' : (g k).contains i = false := by simpa using hc
      rw [hc'] at h ⊢
      obtain ⟨j, h1, h2⟩ := un_spec g i E (by simpa using h)
      exact ⟨j, by simpa using h1, h2⟩
theorem ph_unt {l : Array Bool} {i : Nat} (hA : E.map (fun j => anc ops 4000 [j] []) = A) (h : Closed ops l) (hi : l.getD i false = false) : ph E l ≤ unt A i := by
  subst hA
  by_cases hu : unt (E.map (fun j => anc ops 4000 [j] [])) i < E.length
  · obtain ⟨j, h1, h2⟩ := un_spec _ i E hu
    refine ph_un h1 ?_
    cases hl : l.getD j false with
    | false => rfl
    | true =>
      have := anc_listed h 4000 _ _ (fun j hj => by simp at hj; subst hj; exact hl) (fun j hj => by cases hj) i h2
      rw [hi] at this
      cases this
  · exact Nat.le_trans ph_le (by omega)

def Hold (S : Nat → World → Prop) (p : Nat) (w : World) : Prop := ∀ k, p ≤ k → S k w

/-- wpAny, with what S tells behind every operation that is carried out. -/
def wpAnyX (P : Program) (ops : Array Oper) (Q : Exit → Act → World → Prop) (E : List Nat) (S : Nat → World → Prop) : Nat → Array Bool → Act → World → Prop
  | 0, listed, a, w => Region.ready .any ops listed = [] ∧ Q .normal a w
  | fuel + 1, listed, a, w =>
    (Region.ready .any ops listed = [] → Q .normal a w) ∧
    ∀ i ∈ Region.ready .any ops listed, wpOp P ops Q i (fun a' w' => Hold S (ph E (listed.setIfInBounds i true)) w' ∧ wpAnyX P ops Q E S fuel (listed.setIfInBounds i true) a' w') a w
theorem wpAny_of {S : Nat → World → Prop} : ∀ (fuel : Nat) (listed : Array Bool) (a : Act) (w : World), wpAnyX P ops Q E S fuel listed a w → wpAny P .any ops Q fuel listed a w
  | 0, _, _, _, h => h
  | fuel + 1, _, _, _, h => ⟨h.1, fun i hi => wpOp_mono (fun a' w' h' => wpAny_of fuel _ a' w' h'.2) (h.2 i hi)⟩

theorem first {S : Nat → World → Prop} (hA : E.map (fun j => anc ops 4000 [j] []) = A) {i : Nat} {oi : Oper} {v : Value} (hi : ops[i]? = some oi) (hsel : ∀ (j : Nat) (o : Oper) cs b, ops[j]? = some o → o.op ≠ .select cs b)
    (hQ : ∀ c a w, Q (.panic c) (a.put oi.dst v) w → Q (.panic c) a w) (hE : i ∉ E) :
    ∀ (fuel : Nat) (listed : Array Bool) (a : Act) (w : World),
      (∀ j oj, ops[j]? = some oj → j ≠ i → listed.getD j true = false → (∀ e ∈ oj.after, Region.binds .any e = true → e.on ≠ i) → oi.apart ops oj = true) →
      Closed ops listed → i ∈ Region.ready .any ops listed → YieldsIf P ops (S (unt A i)) oi v a → Hold S (ph E listed) w →
      wpAnyX P ops Q E S fuel (listed.setIfInBounds i true) (a.put oi.dst v) w → wpAnyX P ops Q E S (fuel + 1) listed a w := by
  intro fuel
  have unl : ∀ listed, i ∈ Region.ready .any ops listed → listed.getD i false = false := fun listed hr => by
    have h0 := (mem_ready.1 hr).1
    rcases Nat.lt_or_ge i listed.size with h' | h'
    · simp [h'] at h0 ⊢; exact h0
    · simp [Array.getElem?_eq_none h']
  have Su : ∀ listed w, Closed ops listed → i ∈ Region.ready .any ops listed → Hold S (ph E listed) w → S (unt A i) w := fun listed w hc hr hS => hS _ (ph_unt hA hc (unl listed hr))
  induction fuel with
  | zero =>
    intro listed a w _ hc hr hy hS H
    refine ⟨fun h => (by rw [h] at hr; cases hr), fun j hj => ?_⟩
    by_cases hji : j = i
    · subst hji; exact hy.wpOp hi (Su _ _ hc hr hS) ⟨by rw [ph_set hE]; exact hS, H⟩
    · have := ready_mono hj hji
      rw [H.1] at this
      cases this
  | succ fuel ih =>
    intro listed a w hfree hc hr hy hS H
    refine ⟨fun h => (by rw [h] at hr; cases hr), fun j hj => ?_⟩
    by_cases hji : j = i
    · subst hji; exact hy.wpOp hi (Su _ _ hc hr hS) ⟨by rw [ph_set hE]; exact hS, H⟩
    · have h1 := H.2 j (ready_mono hj hji)
      obtain ⟨hjun, oj, hoj, hall⟩ := mem_ready.1 hj
      have hnot : ∀ e ∈ oj.after, Region.binds .any e = true → e.on ≠ i := fun e he hb heq => by
        have h1 := hall e he hb
        rw [heq, unl listed hr] at h1
        cases h1
      have h2 := wpOp_putIf hoj (hfree j oj hoj hji hjun hnot) (fun cs b => hsel i oi cs b hi) (fun cs b => hsel j oj cs b hoj) hQ hy h1
      have hfree' : ∀ k ok, ops[k]? = some ok → k ≠ i → (listed.setIfInBounds j true).getD k true = false →
          (∀ e ∈ ok.after, Region.binds .any e = true → e.on ≠ i) → oi.apart ops ok = true := fun k ok hk hki hun hno => by
        refine hfree k ok hk hki ?_ hno
        by_cases hjk : j = k
        · subst hjk; exact hjun
        · rw [getD_set_ne true hjk] at hun; exact hun
      refine wpOp_mono (fun a' w' h3 => ?_) h2
      have e1 : (listed.setIfInBounds i true).setIfInBounds j true = (listed.setIfInBounds j true).setIfInBounds i true := Array.setIfInBounds_comm _ _ (fun e => hji e.symm)
      rw [e1, ph_set hE] at h3
      exact ⟨h3.2.1, ih (listed.setIfInBounds j true) a' w' hfree' (hc.set hj) (ready_mono hr (Ne.symm hji)) h3.1 h3.2.1 h3.2.2⟩

theorem X_strong {S S' : Nat → World → Prop} : ∀ (fuel : Nat) (listed : Array Bool) (a : Act) (w : World), (∀ k x, ph E listed ≤ k → S' k x → S k x) → (∀ l j, j ∈ Region.ready .any ops l → ph E l ≤ ph E (l.setIfInBounds j true)) → wpAnyX P ops Q E S' fuel listed a w → wpAnyX P ops Q E S fuel listed a w
  | 0, _, _, _, _, _, h => h
  | fuel + 1, l, _, _, hs, hm, h => ⟨h.1, fun i hi => wpOp_mono (fun a' w' h' => ⟨fun k hk => hs k w' (Nat.le_trans (hm l i hi) hk) (h'.1 k hk), X_strong fuel _ a' w' (fun k x hk => hs k x (Nat.le_trans (hm l i hi) hk)) hm h'.2⟩) (h.2 i hi)⟩
theorem ph_mono (l : Array Bool) (j : Nat) : ∀ {E : List Nat}, ph E l ≤ ph E (l.setIfInBounds j true)
  | [] => Nat.le_refl _
  | k :: E => by
    unfold ph
    by_cases h : l.getD k false = true
    · rw [if_pos h, if_pos (getD_set_true h)]
      exact Nat.succ_le_succ (ph_mono l j)
    · rw [if_neg h]; exact Nat.zero_le _

/-- The walk along a plan. -/
def Walk (P : Program) (ops : Array Oper) (Q : Exit → Act → World → Prop) : T → (Nat → World → Prop) → Act → World → Prop
  | .done, _, a, w => Q .normal a w
  | .q i u rest, S, a, w => ∃ o v, ops[i]? = some o ∧ (∀ c a w, Q (.panic c) (a.put o.dst v) w → Q (.panic c) a w) ∧ YieldsIf P ops (S u) o v a ∧ Walk P ops Q rest S (a.put o.dst v) w
  | .e i p rest, S, a, w => wpOp P ops Q i (fun a' w' => ∃ S' : Nat → World → Prop, (∀ k x, p ≤ k → S' k x → S k x) ∧ (∀ k, p ≤ k → S' k w') ∧ Walk P ops Q rest S' a' w') a w
  | .two i p t j p' t', S, a, w =>
    wpOp P ops Q i (fun a' w' => ∃ S' : Nat → World → Prop, (∀ k x, p ≤ k → S' k x → S k x) ∧ (∀ k, p ≤ k → S' k w') ∧ Walk P ops Q t S' a' w') a w ∧
    wpOp P ops Q j (fun a' w' => ∃ S' : Nat → World → Prop, (∀ k x, p' ≤ k → S' k x → S k x) ∧ (∀ k, p' ≤ k → S' k w') ∧ Walk P ops Q t' S' a' w') a w

theorem walk_sound (hA : E.map (fun j => anc ops 4000 [j] []) = A) (hsel : Region.noSelect ops = true) : ∀ (fuel : Nat) (listed : Array Bool) (l : T) (S : Nat → World → Prop) (a : Act) (w : World),
    plan ops E A fuel listed = some l → Closed ops listed → Hold S (ph E listed) w → Walk P ops Q l S a w → wpAnyX P ops Q E S fuel listed a w := by
  intro fuel
  induction fuel with
  | zero =>
    intro listed l S a w hp hc hS h
    unfold plan at hp
    split at hp
    · rename_i he
      injection hp with hp
      subst hp
      exact ⟨List.isEmpty_iff.1 he, h⟩
    · cases hp
  | succ fuel ih =>
    intro listed l S a w hp hc hS h
    have eff : ∀ (i : Nat) (t : T), i ∈ Region.ready .any ops listed → plan ops E A fuel (listed.setIfInBounds i true) = some t →
        wpOp P ops Q i (fun a' w' => ∃ S' : Nat → World → Prop, (∀ k x, ph E (listed.setIfInBounds i true) ≤ k → S' k x → S k x) ∧ (∀ k, ph E (listed.setIfInBounds i true) ≤ k → S' k w') ∧ Walk P ops Q t S' a' w') a w →
        wpOp P ops Q i (fun a' w' => Hold S (ph E (listed.setIfInBounds i true)) w' ∧ wpAnyX P ops Q E S fuel (listed.setIfInBounds i true) a' w') a w := fun i t hi hl' h =>
      wpOp_mono (fun a' w' ⟨S', hs, hS', hw⟩ => ⟨fun k hk => hs k w' hk (hS' k hk), X_strong _ _ _ _ (fun k x hk => hs k x hk) (fun l j _ => ph_mono l j) (ih _ _ _ _ _ hl' (hc.set hi) (fun k hk => hS' k hk) hw)⟩) h
    unfold plan at hp
    simp only [] at hp
    split at hp
    · rename_i i hf
      obtain ⟨l', hl', rfl⟩ := Option.map_eq_some_iff.1 hp
      have hmem := List.mem_of_find?_eq_some hf
      have hfree := List.find?_some hf
      simp only [Bool.and_eq_true, Bool.not_eq_true'] at hfree
      have hE : i ∉ E := by simpa using hfree.2.2
      obtain ⟨o, v, ho, hQ, hy, hw⟩ := h
      have e1 : ph E (listed.setIfInBounds i true) = ph E listed := ph_set hE
      refine first hA ho (Region.noSelect_spec hsel) hQ hE fuel listed a w (Region.free_spec ho hfree.2.1) hc hmem hy hS (ih _ _ _ _ _ hl' (hc.set hmem) (by rw [e1]; exact hS) hw)
    · split at hp
      · rename_i i hr
        obtain ⟨l', hl', rfl⟩ := Option.map_eq_some_iff.1 hp
        refine ⟨(fun h0 => by rw [hr] at h0; cases h0), fun j hj => ?_⟩
        have hj' := hj
        rw [hr] at hj
        have : j = i := by simpa using hj
        subst this
        exact eff j l' hj' hl' h
      · rename_i hr
        injection hp with hp
        subst hp
        exact ⟨fun _ => h, (fun j hj => by rw [hr] at hj; cases hj)⟩
      · rename_i i j hr
        split at hp
        · rename_i t t' ht ht'
          injection hp with hp
          subst hp
          refine ⟨(fun h0 => by rw [hr] at h0; cases h0), fun k hk => ?_⟩
          have hk' := hk
          rw [hr] at hk
          have : k = i ∨ k = j := by simpa using hk
          rcases this with rfl | rfl
          · exact eff k t hk' ht h.1
          · exact eff k t' hk' ht' h.2
        · cases hp
      · cases hp

theorem start {id : Nat} {a : Act} {w : World} (S : Nat → World → Prop) (hm : P.follows .mixedOrders = true) (hsel : Region.noSelect ops = true) (E : List Nat) (A : List (List Nat)) (hA : E.map (fun j => anc ops 4000 [j] []) = A)
    (l : T) (hp : plan ops E A ops.size (Array.replicate ops.size false) = some l)
    (hS : ∀ k, S k w.drew) (h : Walk P ops Q l S a w.drew) : (Code.region id ops true).wp P Q a w := by
  refine wp_region_any hm (wpAny_of _ _ _ _ (walk_sound hA hsel _ _ l S _ _ hp ?_ (fun k _ => hS k) h))
  intro j o _ hl
  exfalso
  simp [Array.getElem?_replicate] at hl
  split at hl <;> simp at hl

theorem q {i u : Nat} {o : Oper} {v : Value} {rest : T} {S : Nat → World → Prop} {a : Act} {w : World} (ho : ops[i]? = some o) (hQ : ∀ c a w, Q (.panic c) (a.put o.dst v) w → Q (.panic c) a w)
    (hw : Region.wanted o (yielded ops a.tmps) = true) (hv : ∀ x, S u x → (execOp a.eval o).run P x = .ok (.value v) x) (h : Walk P ops Q rest S (a.put o.dst v) w) : Walk P ops Q (.q i u rest) S a w :=
  ⟨o, v, ho, hQ, .inl ⟨hw, hv⟩, h⟩
theorem skip {i u : Nat} {o : Oper} {rest : T} {S : Nat → World → Prop} {a : Act} {w : World} (ho : ops[i]? = some o) (hQ : ∀ c a w, Q (.panic c) (a.put o.dst undef) w → Q (.panic c) a w)
    (hw : Region.wanted o (yielded ops a.tmps) = false) (h : Walk P ops Q rest S (a.put o.dst undef) w) : Walk P ops Q (.q i u rest) S a w :=
  ⟨o, undef, ho, hQ, .inr ⟨hw, rfl⟩, h⟩
/-- An effect. 'hK.out' leads on: with a condition that says more, but for what was told until this effect alone. -/
theorem e {i p : Nat} {o : Oper} {rest : T} {S : Nat → World → Prop} {a : Act} {w : World} (ho : ops[i]? = some o)
    (h : ∀ K : Act → World → Prop, Shut (∀ (a : Act) (w : World) (S' : Nat → World → Prop), (∀ k x, p ≤ k → S' k x → S k x) → (∀ k, p ≤ k → S' k w) → Walk P ops Q rest S' a w → K a w) → if Region.wanted o (yielded ops a.tmps) = true then Oper.wp P o a w K Q else K (a.put o.dst undef) w) : Walk P ops Q (.e i p rest) S a w :=
  wpOp_step ho (fun K hK => h K (fun a w S' h1 h2 h3 => hK a w ⟨S', h1, h2, h3⟩))
/-- Two effects, in either order. -/
theorem two {i p j p' : Nat} {t t' : T} {S : Nat → World → Prop} {a : Act} {w : World} (h : Walk P ops Q (.e i p t) S a w) (h' : Walk P ops Q (.e j p' t') S a w) : Walk P ops Q (.two i p t j p' t') S a w := ⟨h, h'⟩
theorem done {S : Nat → World → Prop} {a : Act} {w : World} (h : Q .normal a w) : Walk P ops Q .done S a w := h
end
end Go.Proofs.YtanbddaecojijaaDoor.Rg
