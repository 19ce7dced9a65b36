/-
  A knapsack's kernel, plainly: the room that a beginning leaves, what may follow, what no answer is below; the bound does not sink from a beginning to what follows.
-/
import Derived.Test.YtpfdkocelmmllaaPlacePlain
namespace Go.Proofs.Ytpfdkocelmmllaa

/-- the room that is left, the values that are left out -/
def stP (room out : Int) : List Int → List Int → List Int → Option (Int × Int)
  | _, _, [] => some (room, out)
  | w :: ws, v :: vs, x :: p => if x = 1 then (if room - w < 0 then none else stP (room - w) out ws vs p) else if x = 0 then (if room < 0 then none else stP room (out + v) ws vs p) else none
  | _, _, _ :: _ => none
/-- what the rest may bring at most -/
def bringsP (room : Int) : List Int → List Int → Int
  | w :: ws, v :: vs => if room < w then v * room / w else v + bringsP (room - w) ws vs
  | _, _ => 0
def sumL : List Int → Int
  | [] => 0
  | x :: l => x + sumL l
def kidsP (cap : Int) (ws vs p : List Int) : List Int × Int :=
  match stP cap 0 ws vs p with
  | none => ([], 1)
  | some (room, _) => match ws.drop p.length with
    | [] => ([], 0)
    | w :: _ => if w ≤ room then ([1, 0], 0) else ([0], 0)
def boundP (cap : Int) (ws vs p : List Int) : Int × Int :=
  match stP cap 0 ws vs p with
  | none => (0, 1)
  | some (room, out) => (out + sumL (vs.drop p.length) - bringsP room (ws.drop p.length) (vs.drop p.length), 0)
theorem stP_long {ws vs : List Int} : ∀ {p : List Int} {room out : Int}, ws.length < p.length → stP room out ws vs p = none := by
  induction ws generalizing vs with
  | nil =>
    intro p room out h
    cases p with
    | nil => simp at h
    | cons x p => rfl
  | cons w ws ih =>
    intro p room out h
    cases p with
    | nil => simp at h
    | cons x p =>
      cases vs with
      | nil => rfl
      | cons v vs =>
        have h' : ws.length < p.length := by simpa using h
        unfold stP
        rw [ih h', ih h']
        split <;> (try split) <;> (try split) <;> rfl
/-- what is left of the room is some, and no more than ahead -/
theorem stP_room {ws vs : List Int} : ∀ {p : List Int} {room out r o : Int}, (∀ x ∈ ws, 0 ≤ x) → 0 ≤ room → stP room out ws vs p = some (r, o) → 0 ≤ r ∧ r ≤ room := by
  induction ws generalizing vs with
  | nil =>
    intro p room out r o _ h0 h
    cases p with
    | nil => simp [stP] at h; omega
    | cons x p => simp [stP] at h
  | cons w ws ih =>
    intro p room out r o hw h0 h
    cases p with
    | nil => simp [stP] at h; omega
    | cons x p =>
      cases vs with
      | nil => simp [stP] at h
      | cons v vs =>
        unfold stP at h
        have hw0 : 0 ≤ w := hw w (by simp)
        have hw' : ∀ x ∈ ws, 0 ≤ x := fun x hx => hw x (by simp [hx])
        split at h
        · split at h
          · cases h
          · have := ih hw' (by omega) h; omega
        · split at h
          · split at h
            · cases h
            · exact ih hw' h0 h
          · cases h
theorem stP_out {ws vs : List Int} : ∀ {p : List Int} {room out r o : Int}, (∀ x ∈ vs, 0 ≤ x ∧ x ≤ 2147483647) → stP room out ws vs p = some (r, o) → out ≤ o ∧ o ≤ out + 2147483647 * p.length := by
  induction ws generalizing vs with
  | nil =>
    intro p room out r o _ h
    cases p with
    | nil => simp [stP] at h; simp; omega
    | cons x p => simp [stP] at h
  | cons w ws ih =>
    intro p room out r o hv h
    cases p with
    | nil => simp [stP] at h; simp; omega
    | cons x p =>
      cases vs with
      | nil => simp [stP] at h
      | cons v vs =>
        unfold stP at h
        have hv0 := hv v (by simp)
        have hv' : ∀ x ∈ vs, 0 ≤ x ∧ x ≤ 2147483647 := fun x hx => hv x (by simp [hx])
        simp only [List.length_cons, Int.natCast_add, Int.natCast_one]
        split at h
        · split at h
          · cases h
          · have := ih hv' h; omega
        · split at h
          · split at h
            · cases h
            · have := ih hv' h; omega
          · cases h
/-- a beginning's beginning -/
theorem stP_app {ws vs : List Int} : ∀ {p q : List Int} {room out : Int}, stP room out ws vs (p ++ q) = (stP room out ws vs p).bind fun (r, o) => stP r o (ws.drop p.length) (vs.drop p.length) q := by
  induction ws generalizing vs with
  | nil =>
    intro p q room out
    cases p with
    | nil => simp [stP]
    | cons x p => simp [stP]
  | cons w ws ih =>
    intro p q room out
    cases p with
    | nil => simp [stP]
    | cons x p =>
      cases vs with
      | nil => simp [stP]
      | cons v vs =>
        simp only [List.cons_append, stP, List.length_cons, List.drop_succ_cons]
        rw [ih, ih]
        split <;> (try split) <;> (try split) <;> rfl

theorem bringsP_nonneg : ∀ {ws vs : List Int} {room : Int}, 0 ≤ room → (∀ x ∈ ws, 0 ≤ x) → (∀ x ∈ vs, 0 ≤ x) → 0 ≤ bringsP room ws vs
  | [], vs, room, _, _, _ => by cases vs <;> simp [bringsP]
  | w :: ws, [], room, _, _, _ => by simp [bringsP]
  | w :: ws, v :: vs, room, h0, hw, hv => by
    unfold bringsP
    have hv0 := hv v (by simp)
    have hw0 := hw w (by simp)
    split
    · exact Int.ediv_nonneg (Int.mul_nonneg hv0 h0) hw0
    · have := bringsP_nonneg (ws := ws) (vs := vs) (room := room - w) (by omega) (fun x hx => hw x (by simp [hx])) (fun x hx => hv x (by simp [hx]))
      omega
theorem sumL_nonneg : ∀ {vs : List Int}, (∀ x ∈ vs, 0 ≤ x) → 0 ≤ sumL vs
  | [], _ => by simp [sumL]
  | v :: vs, hv => by
    have := hv v (by simp)
    have := sumL_nonneg (vs := vs) fun x hx => hv x (by simp [hx])
    simp only [sumL]
    omega
theorem bringsP_le : ∀ {ws vs : List Int} {room : Int}, 0 ≤ room → (∀ x ∈ ws, 0 ≤ x) → (∀ x ∈ vs, 0 ≤ x) → bringsP room ws vs ≤ sumL vs
  | [], vs, room, _, _, hv => by
    have : 0 ≤ sumL vs := sumL_nonneg hv
    cases vs <;> simpa [bringsP] using this
  | w :: ws, [], room, _, _, _ => by simp [bringsP, sumL]
  | w :: ws, v :: vs, room, h0, hw, hv => by
    unfold bringsP sumL
    have hv0 := hv v (by simp)
    have hw0 := hw w (by simp)
    have hs : 0 ≤ sumL vs := sumL_nonneg fun x hx => hv x (by simp [hx])
    split
    · rename_i h
      have h1 : v * room ≤ v * w := Int.mul_le_mul_of_nonneg_left (by omega) hv0
      have h2 : v * room / w ≤ v * w / w := Int.ediv_le_ediv (by omega) h1
      rw [Int.mul_ediv_cancel _ (by omega)] at h2
      omega
    · have := bringsP_le (ws := ws) (vs := vs) (room := room - w) (by omega) (fun x hx => hw x (by simp [hx])) (fun x hx => hv x (by simp [hx]))
      omega
/-- of a list of items none brings more for its weight than w0, v0 -/
def Under (w0 v0 : Int) : List Int → List Int → Prop
  | w :: ws, v :: vs => v * w0 ≤ v0 * w ∧ Under w0 v0 ws vs
  | _, _ => True
/-- sorted: each is no better than those ahead -/
def Falls : List Int → List Int → Prop
  | w :: ws, v :: vs => Under w v ws vs ∧ Falls ws vs
  | _, _ => True
theorem brings_under {w0 v0 : Int} (h0 : 0 ≤ w0) : ∀ {ws vs : List Int} {room : Int}, 0 ≤ room → 0 ≤ v0 → (∀ x ∈ ws, 0 ≤ x) → (∀ x ∈ vs, 0 ≤ x) → Under w0 v0 ws vs → w0 * bringsP room ws vs ≤ v0 * room
  | [], vs, room, hr, hv0, _, _, _ => by
    have : 0 ≤ v0 * room := Int.mul_nonneg hv0 hr
    cases vs <;> simpa [bringsP] using this
  | w :: ws, [], room, hr, hv0, _, _, _ => by
    have : 0 ≤ v0 * room := Int.mul_nonneg hv0 hr
    simpa [bringsP] using this
  | w :: ws, v :: vs, room, hr, hv0, hw, hv, hu => by
    unfold bringsP
    have hw0 := hw w (by simp)
    have hvv := hv v (by simp)
    obtain ⟨hu1, hu2⟩ := hu
    split
    · rename_i hlt
      have hpos : 0 < w := by omega
      have h1 : v * room / w * w ≤ v * room := Int.ediv_mul_le _ (by omega)
      have h2 : w0 * (v * room / w * w) ≤ w0 * (v * room) := Int.mul_le_mul_of_nonneg_left h1 h0
      have h3 : room * (v * w0) ≤ room * (v0 * w) := Int.mul_le_mul_of_nonneg_left hu1 hr
      have e1 : w0 * (v * room / w * w) = w * (w0 * (v * room / w)) := by rw [Int.mul_comm (v * room / w) w, ← Int.mul_assoc, Int.mul_comm w0 w, Int.mul_assoc]
      have e2 : w0 * (v * room) = room * (v * w0) := by rw [← Int.mul_assoc, Int.mul_comm (w0 * v) room, Int.mul_comm w0 v]
      have e3 : room * (v0 * w) = w * (v0 * room) := by rw [← Int.mul_assoc, Int.mul_comm (room * v0) w, Int.mul_comm room v0]
      rw [e1, e2] at h2
      rw [e3] at h3
      exact Int.le_of_mul_le_mul_left (Int.le_trans h2 h3) hpos
    · have ih := brings_under h0 (ws := ws) (vs := vs) (room := room - w) (by omega) hv0 (fun x hx => hw x (by simp [hx])) (fun x hx => hv x (by simp [hx])) hu2
      rw [Int.mul_add, Int.mul_comm w0 v]
      rw [Int.mul_sub] at ih
      omega
theorem brings_more {w0 v0 : Int} (h0 : 0 ≤ w0) : ∀ {ws vs : List Int} {room : Int}, w0 ≤ room → 0 ≤ v0 → (∀ x ∈ ws, 0 ≤ x) → (∀ x ∈ vs, 0 ≤ x) → Under w0 v0 ws vs → Falls ws vs → bringsP room ws vs ≤ v0 + bringsP (room - w0) ws vs
  | [], vs, room, hr, hv0, _, _, _, _ => by cases vs <;> simpa [bringsP] using hv0
  | w :: ws, [], room, hr, hv0, _, _, _, _ => by simpa [bringsP] using hv0
  | w :: ws, v :: vs, room, hr, hv0, hw, hv, hu, hf => by
    have hw0 := hw w (by simp)
    have hvv := hv v (by simp)
    obtain ⟨hu1, hu2⟩ := hu
    obtain ⟨hf1, hf2⟩ := hf
    have hw' : ∀ x ∈ ws, 0 ≤ x := fun x hx => hw x (by simp [hx])
    have hv' : ∀ x ∈ vs, 0 ≤ x := fun x hx => hv x (by simp [hx])
    simp only [bringsP]
    by_cases a1 : room < w
    · rw [if_pos a1, if_pos (by omega)]
      have hpos : 0 < w := by omega
      have e : v * room ≤ v * (room - w0) + v0 * w := by rw [Int.mul_sub]; omega
      have h1 : v * room / w ≤ (v * (room - w0) + v0 * w) / w := Int.ediv_le_ediv hpos e
      rw [Int.add_mul_ediv_right _ _ (by omega)] at h1
      omega
    · rw [if_neg a1]
      by_cases a2 : room - w0 < w
      · rw [if_pos a2]
        have hpos : 0 < w := by omega
        have h1 := brings_under hw0 (ws := ws) (vs := vs) (room := room - w) (by omega) hvv hw' hv' hf1
        have h2 : v + bringsP (room - w) ws vs - v0 ≤ v * (room - w0) / w := by
          rw [Int.le_ediv_iff_mul_le hpos]
          rw [Int.mul_comm, Int.mul_sub, Int.mul_add, Int.mul_sub]
          rw [Int.mul_sub] at h1
          rw [Int.mul_comm w v, Int.mul_comm w v0]
          omega
        omega
      · rw [if_neg a2]
        have ih := brings_more h0 (ws := ws) (vs := vs) (room := room - w) (by omega) hv0 hw' hv' hu2 hf2
        have e : room - w - w0 = room - w0 - w := by omega
        rw [e] at ih
        omega
/-- one more item that is no worse than the others brings no less -/
theorem brings_front {w v : Int} {ws vs : List Int} {room : Int} (hr : 0 ≤ room) (hw : ∀ x ∈ w :: ws, 0 ≤ x) (hv : ∀ x ∈ v :: vs, 0 ≤ x) (hf : Falls (w :: ws) (v :: vs)) : bringsP room ws vs ≤ bringsP room (w :: ws) (v :: vs) := by
  have hw0 := hw w (by simp)
  have hv0 := hv v (by simp)
  have hw' : ∀ x ∈ ws, 0 ≤ x := fun x hx => hw x (by simp [hx])
  have hv' : ∀ x ∈ vs, 0 ≤ x := fun x hx => hv x (by simp [hx])
  obtain ⟨hu, hf'⟩ := hf
  conv => rhs; unfold bringsP
  split
  · rename_i h
    have hpos : 0 < w := by omega
    have h1 := brings_under hw0 hr hv0 hw' hv' hu
    rw [Int.le_ediv_iff_mul_le hpos, Int.mul_comm]
    exact h1
  · exact brings_more hw0 (by omega) hv0 hw' hv' hu hf'
end Go.Proofs.Ytpfdkocelmmllaa
