/- Lines and words: what is split of what was joined. Plain. -/
import Derived.Test.YtjipffbnndbchaaGreatDoorParse
namespace Go.Proofs.YtjipffbnndbchaaGreatDoor

/-- Bytes that are neither a space nor a line's end. -/
def Hi (l : List UInt8) : Prop := ∀ c ∈ l, 45 ≤ c.toNat
theorem Hi.app {a b : List UInt8} (h : Hi a) (k : Hi b) : Hi (a ++ b) := fun c hc => (List.mem_append.1 hc).elim (h c) (k c)
theorem Hi.cons {c : UInt8} {b : List UInt8} (h : 45 ≤ c.toNat) (k : Hi b) : Hi (c :: b) := fun x hx => (List.mem_cons.1 hx).elim (fun e => by subst e; exact h) (k x)
theorem Hi.nil : Hi [] := fun _ h => by simp at h
theorem Hi.no {l : List UInt8} (h : Hi l) (c : UInt8) (hc : c.toNat < 45) : c ∉ l := fun hm => by have := h c hm; omega
theorem dig_toNat (k : Nat) (h : k < 10) : (UInt8.ofNat (48 + k)).toNat = 48 + k := by
  rw [UInt8.toNat_ofNat']; omega
theorem decDigits_hi (u : Nat) : Hi (Lib.decDigits u) := by
  induction u using Nat.strongRecOn with
  | ind u ih =>
    unfold Lib.decDigits
    split
    · exact Hi.cons (by rw [dig_toNat _ (by omega)]; omega) Hi.nil
    · exact (ih (u / 10) (by omega)).app (Hi.cons (by rw [dig_toNat _ (by omega)]; omega) Hi.nil)
theorem itoa_hi (n : Int) : Hi (Lib.itoa n) := by
  unfold Lib.itoa
  split
  · exact Hi.cons (by decide) (decDigits_hi _)
  · exact decDigits_hi _
theorem hexD_hi (n : Int) (h0 : 0 ≤ n) (h1 : n < 16) : 45 ≤ (hexD n).toNat := by
  rcases (show n = 0 ∨ n = 1 ∨ n = 2 ∨ n = 3 ∨ n = 4 ∨ n = 5 ∨ n = 6 ∨ n = 7 ∨ n = 8 ∨ n = 9 ∨ n = 10 ∨ n = 11 ∨ n = 12 ∨ n = 13 ∨ n = 14 ∨ n = 15 from by omega) with rfl | rfl | rfl | rfl | rfl | rfl | rfl | rfl | rfl | rfl | rfl | rfl | rfl | rfl | rfl | rfl <;> decide
def DataIn (l : List Int) : Prop := ∀ c ∈ l, 0 ≤ c ∧ c ≤ 255
theorem hexL_hi : ∀ l : List Int, DataIn l → Hi (hexL l)
  | [], _ => Hi.nil
  | c :: l, h => by
    have hc := h c (by simp)
    exact Hi.cons (hexD_hi _ (by omega) (by omega)) (Hi.cons (hexD_hi _ (by omega) (by omega)) (hexL_hi l fun x hx => h x (by simp [hx])))
theorem hexStr_hi (l : List Int) (h : DataIn l) : Hi (hexStr l).data.toList := by
  unfold hexStr
  split
  · exact Hi.cons (by decide) Hi.nil
  · exact hexL_hi l h
theorem opName_hi (n : Int) : Hi (opName n).data.toList := by
  have key : ∀ s ∈ [sPut, sGet, sDel, bs []], ∀ c ∈ s.data.toList, 45 ≤ c.toNat := by decide
  unfold opName
  split
  · exact key _ (by simp)
  · split
    · exact key _ (by simp)
    · split <;> exact key _ (by simp)
theorem kindName_hi (k : Int) : Hi (kindName k).data.toList := by
  unfold kindName
  rw [List.getD_eq_getElem?_getD]
  cases h : nameList[k.toNat]? with
  | none => exact Hi.nil
  | some x =>
    have key : ∀ y ∈ nameList, ∀ c ∈ y.data.toList, 45 ≤ c.toNat := by decide
    exact key x (List.mem_of_getElem? h)
theorem pickWord_hi (p : Pk) : Hi (pickWord p).data.toList := (itoa_hi _).app (Hi.cons (by decide) (itoa_hi _))
def AllHi (l : List ByteArray) : Prop := ∀ w ∈ l, Hi w.data.toList
theorem AllHi.cons {a : ByteArray} {l : List ByteArray} (h : Hi a.data.toList) (k : AllHi l) : AllHi (a :: l) := fun w hw => (List.mem_cons.1 hw).elim (fun e => by subst e; exact h) (k w)
theorem AllHi.nil : AllHi [] := fun _ h => by simp at h
theorem AllHi.app {a b : List ByteArray} (h : AllHi a) (k : AllHi b) : AllHi (a ++ b) := fun w hw => (List.mem_append.1 hw).elim (h w) (k w)
theorem words_hi (x : Ac) (h : DataIn x.data) : AllHi (wordsOf x) := by
  have h1 : ∀ n, Hi (bs (Lib.itoa n)).data.toList := fun n => itoa_hi n
  have h2 : ∀ n, Hi (bs (Lib.decDigits n)).data.toList := fun n => decDigits_hi n
  have h3 := opName_hi x.op
  have h4 := hexStr_hi x.data h
  refine AllHi.cons (kindName_hi _) ?_
  unfold argsOf
  split
  · refine AllHi.app (.cons (h1 _) (.cons h3 (.cons (h1 _) (.cons (h2 _) (.cons (h2 _) .nil))))) ?_
    split
    · exact .cons h4 .nil
    · exact .nil
  split
  · exact .cons (h1 _) .nil
  split
  · exact .cons (h1 _) .nil
  split
  · exact .cons (h1 _) (.cons (h1 _) .nil)
  split
  · exact .cons (h1 _) (.cons (h1 _) (.cons (h1 _) .nil))
  split
  · exact .cons (h1 _) (.cons (h1 _) .nil)
  split
  · refine AllHi.app (.cons (h1 _) (.cons (h1 _) .nil)) fun w hw => ?_
    obtain ⟨p, _, rfl⟩ := List.mem_map.1 hw
    exact pickWord_hi p
  · exact .cons (h1 _) .nil

/-! ### Split of join -/
theorem indexByte_app (c : UInt8) : ∀ (x r : List UInt8), c ∉ x → Lib.indexByte (x ++ c :: r) c = (x.length : Int)
  | [], r, _ => by simp [Lib.indexByte]
  | b :: x, r, h => by
    simp only [List.mem_cons, not_or] at h
    have hb : (b == c) = false := by rw [beq_eq_false_iff_ne]; exact fun e => h.1 e.symm
    rw [List.cons_append, Lib.indexByte, hb, indexByte_app c x r h.2]
    have : ((x.length : Int) == -1) = false := by rw [beq_eq_false_iff_ne]; omega
    simp [this]
theorem indexByte_no (c : UInt8) : ∀ (x : List UInt8), c ∉ x → Lib.indexByte x c = -1
  | [], _ => rfl
  | b :: x, h => by
    simp only [List.mem_cons, not_or] at h
    have hb : (b == c) = false := by rw [beq_eq_false_iff_ne]; exact fun e => h.1 e.symm
    rw [Lib.indexByte, hb, indexByte_no c x h.2]
    simp
theorem bs_extract_tail (x r : List UInt8) (c : UInt8) : (bs (x ++ c :: r)).extract (x.length + 1) (bs (x ++ c :: r)).size = bs r := by
  apply toList_inj
  rw [ByteArray.toList_eq, ByteArray.toList_eq]
  simp [bs, ByteArray.size]
  exact List.take_of_length_le (by omega)
theorem bs_extract_head (x r : List UInt8) : (bs (x ++ r)).extract 0 x.length = bs x := by
  apply toList_inj
  rw [ByteArray.toList_eq, ByteArray.toList_eq]
  simp [bs]
theorem split_jl : ∀ (ws : List ByteArray), ws ≠ [] → (∀ w ∈ ws, (32 : UInt8) ∉ w.data.toList) → splitW (bs (jl (ws.map (·.data.toList)))) = ws
  | [], h, _ => absurd rfl h
  | [x], _, h => by
    have h1 := h x (by simp)
    have h2 : Lib.indexB (bs x.data.toList) (bs [32]) = -1 := by
      show Lib.index x.data.toList [32] = -1
      rw [Lib.index_one]
      exact indexByte_no 32 _ h1
    show splitW (bs x.data.toList) = [x]
    rw [splitW, Lib.splitB_miss _ _ _ _ h2, bs_of]
  | x :: y :: r, _, h => by
    have ih := split_jl (y :: r) (by simp) (fun w hw => h w (by simp [hw]))
    have h1 := h x (by simp)
    have h2 : Lib.indexB (bs (x.data.toList ++ 32 :: jl ((y :: r).map (·.data.toList)))) (bs [32]) = (x.data.toList.length : Nat) := by
      show Lib.index (x.data.toList ++ 32 :: jl ((y :: r).map (·.data.toList))) [32] = _
      rw [Lib.index_one]
      exact indexByte_app 32 _ _ h1
    show splitW (bs (x.data.toList ++ 32 :: jl ((y :: r).map (·.data.toList)))) = _
    have h3 : (bs [32]).size = 1 := rfl
    rw [splitW, Lib.countB_hit _ _ _ (by decide) h2, Nat.add_comm 1, Lib.splitB_hit _ _ _ _ _ h2, h3, Nat.add_zero, bs_extract_head, bs_extract_tail, bs_of]
    exact congrArg (x :: ·) ih
theorem split_words (x : Ac) (h : DataIn x.data) : splitW (bs (joinL (wordsOf x))) = wordsOf x := by
  rw [joinL_eq]
  exact split_jl _ (by simp [wordsOf]) fun w hw => Hi.no (words_hi x h w hw) 32 (by decide)
theorem jl_no (c : UInt8) (hc : c ≠ 32) : ∀ ws : List (List UInt8), (∀ w ∈ ws, c ∉ w) → c ∉ jl ws
  | [], _ => by simp [jl]
  | [x], h => h x (by simp)
  | x :: y :: r, h => by
    have ih := jl_no c hc (y :: r) fun w hw => h w (by simp [hw])
    simp only [jl, List.mem_append, List.mem_cons, not_or]
    exact ⟨h x (by simp), hc, ih⟩
theorem line_no (x : Ac) (h : DataIn x.data) : (10 : UInt8) ∉ joinL (wordsOf x) := by
  rw [joinL_eq]
  refine jl_no 10 (by decide) _ fun w hw => ?_
  obtain ⟨v, hv, rfl⟩ := List.mem_map.1 hw
  exact Hi.no (words_hi x h v hv) 10 (by decide)

/-! ### Cut of a line -/
theorem cutL_app (c : UInt8) : ∀ (x r : List UInt8), c ∉ x → cutL c (x ++ c :: r) = (x, r, true)
  | [], r, _ => by simp [cutL]
  | b :: x, r, h => by
    simp only [List.mem_cons, not_or] at h
    rw [List.cons_append, cutL, if_neg (fun e => h.1 e.symm), cutL_app c x r h.2]
theorem cutAt_line (x r : List UInt8) (h : (10 : UInt8) ∉ x) : cutAt (bs (x ++ 10 :: r)) 10 = (bs x, bs r, true) := by
  simp only [cutAt, cut_eq, bs_toList]
  rw [cutL_app 10 x r h]
  rfl
theorem cutAt_eq (s : ByteArray) : cutAt s 10 = (bs (cutL 10 s.data.toList).1, bs (cutL 10 s.data.toList).2.1, (cutL 10 s.data.toList).2.2) := by
  simp only [cutAt, cut_eq]
  rfl
end Go.Proofs.YtjipffbnndbchaaGreatDoor
