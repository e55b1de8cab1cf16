/- Cut by structure: plain, no program. -/
import Derived.Test.YtjipffbnndbchaaGreatDoorScrC
namespace Go.Proofs.YtjipffbnndbchaaGreatDoor
/-- Cut at the first c. -/
def cutL (c : UInt8) : List UInt8 → List UInt8 × List UInt8 × Bool
  | [] => ([], [], false)
  | x :: l => if x = c then ([], l, true) else (x :: (cutL c l).1, (cutL c l).2.1, (cutL c l).2.2)
theorem cut_eq (c : UInt8) : ∀ l : List UInt8, Lib.cut l [c] = cutL c l := by
  intro l
  induction l with
  | nil => simp [Lib.cut, cutL, Lib.index_one, Lib.indexByte]
  | cons x l ih =>
    simp only [Lib.cut, Lib.index_one, Lib.indexByte, cutL] at *
    have hge := Lib.indexByte_ge l c
    by_cases hx : x = c
    · simp [hx]
    · by_cases h0 : Lib.indexByte l c = -1
      · simp [hx, h0] at ih ⊢
        simp [← ih]
      · have h1 : 0 ≤ Lib.indexByte l c := by omega
        simp only [h1, if_true] at ih
        have h2 : (0 : Int) ≤ Lib.indexByte l c + 1 := by omega
        have h3 : (Lib.indexByte l c + 1).toNat = (Lib.indexByte l c).toNat + 1 := by omega
        simp [hx, h0, h2, h3, ← ih]
theorem cutL_found (c : UInt8) : ∀ l : List UInt8, (cutL c l).2.2 = true → l = (cutL c l).1 ++ c :: (cutL c l).2.1
  | [], h => by simp [cutL] at h
  | x :: l, h => by
    by_cases hx : x = c
    · simp [cutL, hx]
    · simp only [cutL, if_neg hx] at h ⊢
      have := cutL_found c l h
      rw [List.cons_append, ← this]
theorem cutL_no (c : UInt8) : ∀ l : List UInt8, c ∉ (cutL c l).1
  | [] => by simp [cutL]
  | x :: l => by
    by_cases hx : x = c
    · simp [cutL, hx]
    · simp only [cutL, if_neg hx, List.mem_cons, not_or]
      exact ⟨fun e => hx e.symm, cutL_no c l⟩
theorem cutL_none (c : UInt8) : ∀ l : List UInt8, (cutL c l).2.2 = false → c ∉ l
  | [], _ => by simp
  | x :: l, h => by
    by_cases hx : x = c
    · simp [cutL, hx] at h
    · simp only [cutL, if_neg hx] at h
      simp only [List.mem_cons, not_or]
      exact ⟨fun e => hx e.symm, cutL_none c l h⟩
theorem splitB_small (sep : ByteArray) : ∀ (k : Nat) (s : ByteArray), ∀ x ∈ Lib.splitB sep 0 k s, x.size ≤ s.size
  | 0, s, x, h => by simp [Lib.splitB] at h; simp [h]
  | k + 1, s, x, h => by
    unfold Lib.splitB at h
    split at h
    · simp at h; simp [h]
    · rcases List.mem_cons.1 h with rfl | h
      · rw [ByteArray.size_extract]; omega
      · have := splitB_small sep k _ x h
        rw [ByteArray.size_extract] at this
        omega
end Go.Proofs.YtjipffbnndbchaaGreatDoor
