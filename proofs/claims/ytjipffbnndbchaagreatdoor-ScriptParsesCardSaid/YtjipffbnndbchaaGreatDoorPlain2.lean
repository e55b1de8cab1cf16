/- What is parsed is printed as it was; the first line that is wrong. Plain. -/
import Derived.Test.YtjipffbnndbchaaGreatDoorPlain
namespace Go.Proofs.YtjipffbnndbchaaGreatDoor

theorem actS_data (k : Int) (s : Rd) : DataIn (actS k s).1.data := by
  have h0 : ∀ x : ByteArray, DataIn ((dataOf x).1.map fun b => (b.toNat : Int)) := by
    intro x c hc
    obtain ⟨b, _, rfl⟩ := List.mem_map.1 hc
    have := b.toNat_lt
    show (0 : Int) ≤ (b.toNat : Int) ∧ (b.toNat : Int) ≤ 255
    omega
  have hnil : DataIn [] := fun _ h => by simp at h
  unfold actS
  by_cases h0' : k = 0
  · rw [if_pos h0']
    by_cases ho : (rOp (rNum s).2).1 = 1
    · rw [if_pos ho]; exact h0 _
    · rw [if_neg ho]; exact hnil
  rw [if_neg h0']
  by_cases h1 : k = 1
  · rw [if_pos h1]; exact hnil
  rw [if_neg h1]
  by_cases h2 : k = 2
  · rw [if_pos h2]; exact hnil
  rw [if_neg h2]
  by_cases h3 : k = 3
  · rw [if_pos h3]; exact hnil
  rw [if_neg h3]
  by_cases h4 : k = 4
  · rw [if_pos h4]; exact hnil
  rw [if_neg h4]
  by_cases h5 : k = 5
  · rw [if_pos h5]; exact hnil
  rw [if_neg h5]
  by_cases h6 : k = 6
  · rw [if_pos h6]; exact hnil
  rw [if_neg h6]
  by_cases h7 : k = 7
  · rw [if_pos h7]; exact hnil
  rw [if_neg h7]
  by_cases h8 : k = 8
  · rw [if_pos h8]; exact hnil
  rw [if_neg h8]
  by_cases h9 : k = 9
  · rw [if_pos h9]; exact hnil
  rw [if_neg h9]
  by_cases h10 : k = 10
  · rw [if_pos h10]; exact hnil
  rw [if_neg h10]
  by_cases h11 : k = 11
  · rw [if_pos h11]; exact hnil
  rw [if_neg h11]
  exact hnil
theorem actS_gone (k : Int) (s : Rd) : (actS k s).1.gone = false := by
  unfold actS
  by_cases h0' : k = 0
  · rw [if_pos h0']
    by_cases ho : (rOp (rNum s).2).1 = 1
    · rw [if_pos ho]
    · rw [if_neg ho]
  rw [if_neg h0']
  by_cases h1 : k = 1
  · rw [if_pos h1]
  rw [if_neg h1]
  by_cases h2 : k = 2
  · rw [if_pos h2]
  rw [if_neg h2]
  by_cases h3 : k = 3
  · rw [if_pos h3]
  rw [if_neg h3]
  by_cases h4 : k = 4
  · rw [if_pos h4]
  rw [if_neg h4]
  by_cases h5 : k = 5
  · rw [if_pos h5]
  rw [if_neg h5]
  by_cases h6 : k = 6
  · rw [if_pos h6]
  rw [if_neg h6]
  by_cases h7 : k = 7
  · rw [if_pos h7]
  rw [if_neg h7]
  by_cases h8 : k = 8
  · rw [if_pos h8]
  rw [if_neg h8]
  by_cases h9 : k = 9
  · rw [if_pos h9]
  rw [if_neg h9]
  by_cases h10 : k = 10
  · rw [if_pos h10]
  rw [if_neg h10]
  by_cases h11 : k = 11
  · rw [if_pos h11]
  rw [if_neg h11]
theorem opOf_name (x : ByteArray) (h : (opOf x).2 = false) : opName (opOf x).1 ≠ bs [] := by
  have h1 : sPut ≠ bs [] := by decide
  have h2 : sGet ≠ bs [] := by decide
  have h3 : sDel ≠ bs [] := by decide
  unfold opOf at h ⊢
  by_cases e1 : x = sPut
  · rw [if_pos e1]; exact h1
  · rw [if_neg e1] at h ⊢
    by_cases e2 : x = sGet
    · rw [if_pos e2]; exact h2
    · rw [if_neg e2] at h ⊢
      by_cases e3 : x = sDel
      · rw [if_pos e3]; exact h3
      · rw [if_neg e3] at h; simp at h
theorem actS_op (k : Int) (s : Rd) (hok : (actS k s).2.2 = false) (hk : (actS k s).1.kind = 0) : opName (actS k s).1.op ≠ bs [] := by
  unfold actS at hok hk ⊢
  by_cases h0 : k = 0
  · rw [if_pos h0] at hok hk ⊢
    by_cases ho : (rOp (rNum s).2).1 = 1
    · rw [if_pos ho] at hok hk ⊢
      refine opOf_name _ ?_
      simp only [rData, rBig, rNum, rOp, Rd.on, Bool.or_eq_false_iff] at hok ⊢
      grind
    · rw [if_neg ho] at hok hk ⊢
      refine opOf_name _ ?_
      simp only [rBig, rNum, rOp, Rd.on, Bool.or_eq_false_iff] at hok ⊢
      grind
  rw [if_neg h0] at hok hk ⊢
  by_cases h1 : k = 1
  · rw [if_pos h1] at hk; exact absurd (show (1 : Int) = 0 from hk) (by decide)
  rw [if_neg h1] at hk
  by_cases h2 : k = 2
  · rw [if_pos h2] at hk; exact absurd (show (2 : Int) = 0 from hk) (by decide)
  rw [if_neg h2] at hk
  by_cases h3 : k = 3
  · rw [if_pos h3] at hk; exact absurd (show (3 : Int) = 0 from hk) (by decide)
  rw [if_neg h3] at hk
  by_cases h4 : k = 4
  · rw [if_pos h4] at hk; exact absurd (show (4 : Int) = 0 from hk) (by decide)
  rw [if_neg h4] at hk
  by_cases h5 : k = 5
  · rw [if_pos h5] at hk; exact absurd (show (5 : Int) = 0 from hk) (by decide)
  rw [if_neg h5] at hk
  by_cases h6 : k = 6
  · rw [if_pos h6] at hk; exact absurd (show (6 : Int) = 0 from hk) (by decide)
  rw [if_neg h6] at hk
  by_cases h7 : k = 7
  · rw [if_pos h7] at hk; exact absurd (show (7 : Int) = 0 from hk) (by decide)
  rw [if_neg h7] at hk
  by_cases h8 : k = 8
  · rw [if_pos h8] at hk; exact absurd (show (8 : Int) = 0 from hk) (by decide)
  rw [if_neg h8] at hk
  by_cases h9 : k = 9
  · rw [if_pos h9] at hk; exact absurd (show (9 : Int) = 0 from hk) (by decide)
  rw [if_neg h9] at hk
  by_cases h10 : k = 10
  · rw [if_pos h10] at hk; exact absurd (show (10 : Int) = 0 from hk) (by decide)
  rw [if_neg h10] at hk
  by_cases h11 : k = 11
  · rw [if_pos h11] at hk; exact absurd (show (11 : Int) = 0 from hk) (by decide)
  rw [if_neg h11] at hk
  exact absurd hk h0

theorem jl_mem : ∀ (ws : List (List UInt8)), ∀ w ∈ ws, w.length ≤ (jl ws).length
  | [], _, h => by simp at h
  | [x], w, h => by simp at h; subst h; exact Nat.le_refl _
  | x :: y :: r, w, h => by
    have ih := jl_mem (y :: r)
    simp only [jl, List.length_append, List.length_cons]
    rcases List.mem_cons.1 h with rfl | h
    · omega
    · have := ih w h; omega
theorem joinL_small (x : Ac) (h : (joinL (wordsOf x)).length ≤ 1000000) : Small (wordsOf x) := by
  intro w hw
  have h1 := jl_mem ((wordsOf x).map (·.data.toList)) _ (List.mem_map.2 ⟨w, hw, rfl⟩)
  rw [← joinL_eq, Array.length_toList] at h1
  show w.data.size ≤ _
  omega

/-- An act that is parsed out of its own line. -/
structure Good (x : Ac) : Prop where
  lined : Lined x
  data : DataIn x.data
  line : lineAct (bs (joinL (wordsOf x))) = some x
theorem lineAct_some {line : ByteArray} {x : Ac} (h : lineAct line = some x) (hs : line.size ≤ 3000) : Good x ∧ bs (joinL (wordsOf x)) = line := by
  have h0 := h
  unfold lineAct at h
  split at h
  case isFalse => simp at h
  rename_i hc
  obtain ⟨c1, c2, c3⟩ := hc
  cases h
  have hd : DataIn (actOf (splitW line)).1.data := actS_data _ _
  have hsp := split_words _ hd
  rw [c3] at hsp
  have hl : (splitW line).length ≤ 3001 := by
    have h7 : (splitW line).length = Lib.countB line (bs [32]) + 1 := Lib.splitB_all (bs [32]) (by decide) 0 _ line rfl
    have h8 := Lib.countB_le (bs [32]) (by decide) _ line (Nat.le_refl _)
    omega
  have hjl : (joinL (wordsOf (actOf (splitW line)).1)).length ≤ 1000000 := by
    have := congrArg ByteArray.size c3
    rw [bs_size] at this
    omega
  have hsm : Small (splitW line) := fun x hx => by have := splitB_small (bs [32]) _ line x hx; omega
  refine ⟨⟨⟨actS_in _ _ hsm.tail (by simp; omega) c1, actS_gone _ _, fun hk => actS_op _ _ c1 hk, joinL_small _ hjl, ?_, ?_, ?_⟩, hd, ?_⟩, c3⟩
  · rw [← hsp]; omega
  · rw [← hsp]
  · rw [← hsp]; exact ⟨c1, c2⟩
  · rw [c3]; exact h0

def badHead (rest : List UInt8) : Prop := (cutL 10 rest).2.2 = true → lineAct (bs (cutL 10 rest).1) = none
theorem bs_nil_iff {l : List UInt8} : bs l = bs [] ↔ l = [] := by
  constructor
  · intro h
    have := congrArg (fun b : ByteArray => b.data.toList) h
    simpa using this
  · rintro rfl; rfl
theorem parse_step (n : Nat) (l : List UInt8) (hne : l ≠ []) : parseFrom (n + 1) (bs l) = if (cutL 10 l).2.2 = true then (match lineAct (bs (cutL 10 l).1) with | some a => (a :: (parseFrom n (bs (cutL 10 l).2.1)).1, (parseFrom n (bs (cutL 10 l).2.1)).2) | none => ([], false)) else ([], false) := by
  rw [parseFrom, if_neg (by rw [bs_nil_iff]; exact hne)]
  have e := cutAt_eq (bs l)
  rw [bs_toList] at e
  rw [e]
  rfl
theorem parse_split : ∀ (n : Nat) (l : List UInt8) (acts : List Ac) (b : Bool), parseFrom n (bs l) = (acts, b) → l.length ≤ n → l.length ≤ 3000 →
    ∃ rest, l = acts.flatMap lineL ++ rest ∧ (∀ x ∈ acts, Good x) ∧ (b = true → rest = []) ∧ (b = false → rest ≠ [] ∧ badHead rest)
  | 0, l, acts, b, h, hl, _ => by
    have : l = [] := List.eq_nil_of_length_eq_zero (by omega)
    subst this
    simp [parseFrom] at h
    obtain ⟨rfl, rfl⟩ := h
    exact ⟨[], by simp⟩
  | n + 1, l, acts, b, h, hl, hs => by
    by_cases hn : l = []
    · subst hn
      simp [parseFrom] at h
      obtain ⟨rfl, rfl⟩ := h
      exact ⟨[], by simp⟩
    · rw [parse_step n l hn] at h
      by_cases hw : (cutL 10 l).2.2 = true
      · rw [if_pos hw] at h
        have hf := cutL_found 10 l hw
        have hlen := congrArg List.length hf
        simp only [List.length_append, List.length_cons] at hlen
        cases hla : lineAct (bs (cutL 10 l).1) with
        | none =>
          rw [hla] at h
          simp at h
          obtain ⟨rfl, rfl⟩ := h
          exact ⟨l, by simp, by simp, by simp, fun _ => ⟨hn, fun _ => hla⟩⟩
        | some x =>
          rw [hla] at h
          obtain ⟨hg, hj⟩ := lineAct_some hla (by rw [bs_size]; omega)
          simp only [Prod.mk.injEq] at h
          obtain ⟨rfl, rfl⟩ := h
          obtain ⟨rest, h1, h2, h3, h4⟩ := parse_split n (cutL 10 l).2.1 _ _ rfl (by omega) (by omega)
          refine ⟨rest, ?_, ?_, h3, h4⟩
          · have hj2 : joinL (wordsOf x) = (cutL 10 l).1 := by
              have := congrArg (fun b : ByteArray => b.data.toList) hj
              simpa using this
            rw [List.flatMap_cons, lineL, hj2, List.append_assoc, ← h1, List.append_assoc]
            exact hf
          · intro y hy
            rcases List.mem_cons.1 hy with rfl | hy
            · exact hg
            · exact h2 y hy
      · rw [if_neg hw] at h
        simp at h
        obtain ⟨rfl, rfl⟩ := h
        exact ⟨l, by simp, by simp, by simp, fun _ => ⟨hn, fun h => absurd h hw⟩⟩
theorem parse_lines : ∀ (acts : List Ac), (∀ x ∈ acts, Good x) → ∀ n, (acts.flatMap lineL).length ≤ n → parseFrom n (bs (acts.flatMap lineL)) = (acts, true)
  | [], _, 0, _ => rfl
  | [], _, n + 1, _ => by simp [parseFrom]
  | x :: acts, h, 0, hn => by simp [lineL] at hn
  | x :: acts, h, n + 1, hn => by
    have hx := h x (by simp)
    have ih := parse_lines acts (fun y hy => h y (by simp [hy])) n (by
      simp only [List.flatMap_cons, lineL, List.length_append, List.length_cons, List.length_nil] at hn
      omega)
    have hne : (x :: acts).flatMap lineL = joinL (wordsOf x) ++ 10 :: acts.flatMap lineL := by simp [lineL]
    rw [hne, parse_step n _ (by simp), cutL_app 10 _ _ (line_no x hx.data)]
    simp [hx.line, ih]
/-- The first line of a text, with its end where it has one. -/
def headLine (l : List UInt8) : List UInt8 := if (cutL 10 l).2.2 = true then (cutL 10 l).1 ++ [10] else l
theorem parse_bad {rest : List UInt8} (hne : rest ≠ []) (hb : badHead rest) (n : Nat) : parseFrom (n + 1) (bs (headLine rest)) = ([], false) := by
  unfold headLine
  by_cases hw : (cutL 10 rest).2.2 = true
  · rw [if_pos hw, parse_step n _ (by simp), cutL_app 10 _ [] (cutL_no 10 rest)]
    simp [hb hw]
  · rw [if_neg hw, parse_step n _ hne, if_neg hw]
theorem count_lines : ∀ (acts : List Ac), (∀ x ∈ acts, Good x) → (acts.flatMap lineL).count 10 = acts.length
  | [], _ => rfl
  | x :: acts, h => by
    have hx := line_no x (h x (by simp)).data
    have ih := count_lines acts fun y hy => h y (by simp [hy])
    simp only [List.flatMap_cons, lineL, List.count_append, List.length_cons] at ih ⊢
    rw [ih, List.count_eq_zero_of_not_mem hx]
    simp
    omega
end Go.Proofs.YtjipffbnndbchaaGreatDoor
