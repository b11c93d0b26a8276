
/- What is refused leaves nothing; texts of bytes are the bytes. -/
import Derived.Test.YticebanhccgglaaDoorPlain17d
namespace Go.Proofs.YticebanhccgglaaDoor
open Go.RowKit

theorem takeR_none (m : Int) : ∀ (k : Nat) (l out x : List Int) (e : Int), l.length ≤ k → takeR m out l = (x, e) → e ≠ 0 → x = []
  | k, l, out, x, e, hk, h, he => by
    by_cases hlt : (out.length : Int) < m
    · obtain ⟨n, l2, e2, hr⟩ : ∃ n l2 e2, readS l 0 1 (m - out.length) = (n, l2, e2) := ⟨_, _, _, rfl⟩
      by_cases he2 : e2 = 0
      · subst he2
        cases l2 with
        | nil =>
          rw [takeR_short hlt hr] at h
          simp at h
          exact h.1
        | cons c t =>
          rw [takeR_next hlt hr] at h
          split at h
          · simp at h
            exact h.1
          · have hls := read_less hr
            cases k with
            | zero => simp at hk; subst hk; simp at hls
            | succ k => exact takeR_none m k t _ x e (by simp at hls; omega) h he
      · rw [takeR_bad hlt hr he2] at h
        simp at h
        exact h.1
    · rw [takeR_done hlt] at h
      split at h
      · simp at h
        exact absurd h.2.symm he
      · simp at h
        exact h.1
theorem takeT_none {m : Int} {l x : List Int} {e : Int} (h : takeT m l = (x, e)) (he : e ≠ 0) : x = [] := by
  unfold takeT at h
  split at h
  · simp at h
    exact h.1
  · exact takeR_none m l.length l [] x e (Nat.le_refl _) h he
theorem takeT_form {m : Int} {l x : List Int} (hb : ∀ z ∈ l, 0 ≤ z ∧ z < 256) (h : takeT m l = (x, 0)) : putR x = l ∧ (x.length : Int) = m := by
  unfold takeT at h
  split at h
  · simp at h
  · rename_i h0
    obtain ⟨y, h1, h2, h3, _⟩ := take_form m l.length l [] x (Nat.le_refl _) hb (by simp; omega) h
    simp at h1
    subst h1
    exact ⟨h2.symm, by simpa using h3⟩
theorem putR_mem : ∀ (k : Nat) (l : List Int), l.length ≤ k → ∀ z ∈ l, z ∈ putR l
  | _, [], _ => by simp
  | 0, x :: r, h => by simp at h
  | k + 1, x :: r, h => by
    intro z hz
    rw [putR_cons]
    have hs := lead_split x r
    rw [hs] at hz
    rcases List.mem_cons.1 hz with hz | hz
    · subst hz
      simp [encR]
    · rcases List.mem_append.1 hz with hz | hz
      · have := List.eq_of_mem_replicate hz
        subst this
        simp [encR]
      · exact List.mem_append_right _ (putR_mem k _ (by simp at h ⊢; omega) z hz)
theorem take_range {m : Int} {l x : List Int} (hb : ∀ z ∈ l, 0 ≤ z ∧ z < 256) (h : takeT m l = (x, 0)) : ∀ z ∈ x, 0 ≤ z ∧ z < 256 := by
  intro z hz
  have h1 := (takeT_form hb h).1
  exact hb z (by rw [← h1]; exact putR_mem x.length x (Nat.le_refl _) z hz)
theorem strOf_inj : ∀ {a b : List Int}, (∀ z ∈ a, 0 ≤ z ∧ z < 256) → (∀ z ∈ b, 0 ≤ z ∧ z < 256) → strOf a = strOf b → a = b := by
  intro a b ha hb h
  have h1 : (strOfNums a).data.toList = (strOfNums b).data.toList := congrArg (fun s : ByteArray => s.data.toList) h
  rw [strOfNums_data, strOfNums_data] at h1
  clear h
  induction a generalizing b with
  | nil =>
    cases b with
    | nil => rfl
    | cons y b => simp at h1
  | cons x a ih =>
    cases b with
    | nil => simp at h1
    | cons y b =>
      rw [List.map_cons, List.map_cons] at h1
      injection h1 with h1 h2
      have hx := ha x (by simp)
      have hy := hb y (by simp)
      have e : (UInt8.ofNat x.toNat).toNat = (UInt8.ofNat y.toNat).toNat := congrArg UInt8.toNat h1
      rw [UInt8.toNat_ofNat', UInt8.toNat_ofNat'] at e
      rw [ih (fun z hz => ha z (by simp [hz])) (fun z hz => hb z (by simp [hz])) h2]
      congr 1
      omega
theorem put_one (n : Nat) (h : n ≤ 255) : (putR (List.replicate (n + 1) 0)).length ≤ 3 := by
  have := putR_rep 0 [] (by simp) n
  rw [List.append_nil, putR_nil, List.append_nil] at this
  rw [this]
  unfold encR
  have hz : zz ((n + 1 : Nat) : Int) = 2 * (n + 1) := by unfold zz; rw [if_pos (by omega)]; omega
  rw [List.length_append, List.length_singleton, hz]
  unfold grp
  rw [List.length_append, List.length_singleton]
  have hd : (grpD (2 * (n + 1) / 128)).length ≤ 1 := grpD_len 1 _ (by omega)
  omega
end Go.Proofs.YticebanhccgglaaDoor
