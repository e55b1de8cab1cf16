/- What is parsed is in its ranges: plain. -/
import Derived.Test.YtjipffbnndbchaaGreatDoorWords
import Derived.Lib.ParseIntBCases
namespace Go.Proofs.YtjipffbnndbchaaGreatDoor

theorem opOf_in (x : ByteArray) : InK .i64 (opOf x).1 := by
  unfold opOf
  split
  · simp [InK]
  · split
    · simp [InK]
    · split <;> simp [InK]
theorem uintR_le (n : Nat) (x : ByteArray) : (uintR n x).1 ≤ 2 ^ n - 1 := by
  unfold uintR
  split
  · exact Lib.parseUintB_le (by assumption)
  · simp
  · simp
theorem hexPairs_len : ∀ l : List UInt8, (hexPairs l).1.length ≤ l.length
  | [] => by simp [hexPairs]
  | [_] => by simp [hexPairs]
  | a :: b :: r => by
    have := hexPairs_len r
    simp only [hexPairs, List.length_cons]
    omega
theorem dataOf_len (x : ByteArray) : (dataOf x).1.length ≤ x.size := by
  unfold dataOf
  split
  · simp
  · split
    · simp
    · have := hexPairs_len x.data.toList
      rw [Array.length_toList] at this
      exact this
theorem rPicks_len : ∀ (n : Nat) (s : Rd), (rPicks n s).1.length = n
  | 0, s => rfl
  | n + 1, s => by simp [rPicks, rPicks_len n]
theorem rNum_in (s : Rd) : InK .i64 (rNum s).1 := atoiR_in _
theorem rOp_in (s : Rd) : InK .i64 (rOp s).1 := opOf_in _
theorem zero_in : InK .i64 0 := by simp [InK]
theorem rBig64_in (s : Rd) : InK .u64 ((rBig 64 s).1 : Int) := by
  have := uintR_le 64 s.word
  simp only [InK, rBig]
  omega
theorem rBig32_in (s : Rd) : InK .u32 (((rBig 32 s).1 : Int) % 4294967296) := by
  simp only [InK]
  omega
theorem on_small {s : Rd} (h : Small s.1) (b : Bool) : Small (s.on b).1 := h.tail
theorem actS_in (k : Int) (s : Rd) (hs : Small s.1) (hl : s.1.length ≤ 2000000) (hok : (actS k s).2.2 = false) : AcIn (actS k s).1 := by
  unfold actS at hok ⊢
  by_cases h0 : k = 0
  · rw [if_pos h0] at hok ⊢
    by_cases ho : (rOp (rNum s).2).1 = 1
    · rw [if_pos ho] at hok ⊢
      constructor <;> first | (simp; done) | exact rNum_in _ | exact rOp_in _ | exact zero_in | exact rBig64_in _ | exact rBig32_in _ | (refine Nat.le_trans (by simp only [rData, List.length_map]; exact dataOf_len _) (Small.head ?_); exact on_small (on_small (on_small (on_small (on_small hs _) _) _) _) _)
    · rw [if_neg ho] at hok ⊢
      constructor <;> first | (simp; done) | exact rNum_in _ | exact rOp_in _ | exact zero_in | exact rBig64_in _ | exact rBig32_in _
  rw [if_neg h0] at hok ⊢
  by_cases h1 : k = 1
  · rw [if_pos h1] at hok ⊢
    constructor <;> first | (simp; done) | exact rNum_in _ | exact zero_in | (simp [InK]; done) | (simp only [rPicks_len]; exact Nat.le_trans (by simp [rNum, Rd.on]; omega) hl)
  rw [if_neg h1] at hok ⊢
  by_cases h2 : k = 2
  · rw [if_pos h2] at hok ⊢
    constructor <;> first | (simp; done) | exact rNum_in _ | exact zero_in | (simp [InK]; done) | (simp only [rPicks_len]; exact Nat.le_trans (by simp [rNum, Rd.on]; omega) hl)
  rw [if_neg h2] at hok ⊢
  by_cases h3 : k = 3
  · rw [if_pos h3] at hok ⊢
    constructor <;> first | (simp; done) | exact rNum_in _ | exact zero_in | (simp [InK]; done) | (simp only [rPicks_len]; exact Nat.le_trans (by simp [rNum, Rd.on]; omega) hl)
  rw [if_neg h3] at hok ⊢
  by_cases h4 : k = 4
  · rw [if_pos h4] at hok ⊢
    constructor <;> first | (simp; done) | exact rNum_in _ | exact zero_in | (simp [InK]; done) | (simp only [rPicks_len]; exact Nat.le_trans (by simp [rNum, Rd.on]; omega) hl)
  rw [if_neg h4] at hok ⊢
  by_cases h5 : k = 5
  · rw [if_pos h5] at hok ⊢
    constructor <;> first | (simp; done) | exact rNum_in _ | exact zero_in | (simp [InK]; done) | (simp only [rPicks_len]; exact Nat.le_trans (by simp [rNum, Rd.on]; omega) hl)
  rw [if_neg h5] at hok ⊢
  by_cases h6 : k = 6
  · rw [if_pos h6] at hok ⊢
    constructor <;> first | (simp; done) | exact rNum_in _ | exact zero_in | (simp [InK]; done) | (simp only [rPicks_len]; exact Nat.le_trans (by simp [rNum, Rd.on]; omega) hl)
  rw [if_neg h6] at hok ⊢
  by_cases h7 : k = 7
  · rw [if_pos h7] at hok ⊢
    constructor <;> first | (simp; done) | exact rNum_in _ | exact zero_in | (simp [InK]; done) | (simp only [rPicks_len]; exact Nat.le_trans (by simp [rNum, Rd.on]; omega) hl)
  rw [if_neg h7] at hok ⊢
  by_cases h8 : k = 8
  · rw [if_pos h8] at hok ⊢
    constructor <;> first | (simp; done) | exact rNum_in _ | exact zero_in | (simp [InK]; done) | (simp only [rPicks_len]; exact Nat.le_trans (by simp [rNum, Rd.on]; omega) hl)
  rw [if_neg h8] at hok ⊢
  by_cases h9 : k = 9
  · rw [if_pos h9] at hok ⊢
    constructor <;> first | (simp; done) | exact rNum_in _ | exact zero_in | (simp [InK]; done) | (simp only [rPicks_len]; exact Nat.le_trans (by simp [rNum, Rd.on]; omega) hl)
  rw [if_neg h9] at hok ⊢
  by_cases h10 : k = 10
  · rw [if_pos h10] at hok ⊢
    constructor <;> first | (simp; done) | exact rNum_in _ | exact zero_in | (simp [InK]; done) | (simp only [rPicks_len]; exact Nat.le_trans (by simp [rNum, Rd.on]; omega) hl)
  rw [if_neg h10] at hok ⊢
  by_cases h11 : k = 11
  · rw [if_pos h11] at hok ⊢
    constructor <;> first | (simp; done) | exact rNum_in _ | exact zero_in | (simp [InK]; done) | (simp only [rPicks_len]; exact Nat.le_trans (by simp [rNum, Rd.on]; omega) hl)
  rw [if_neg h11] at hok ⊢
  simp at hok
end Go.Proofs.YtjipffbnndbchaaGreatDoor
