/- Join and split by one byte, by structure: plain. -/
import Derived.Test.YtjipffbnndbchaaGreatDoorPrint
import Derived.Test.YtjipffbnndbchaaGreatDoorActIn
import Derived.Lib.ItoaLen
namespace Go.Proofs.YtjipffbnndbchaaGreatDoor

def jl : List (List UInt8) → List UInt8
  | [] => []
  | [x] => x
  | x :: y :: r => x ++ 32 :: jl (y :: r)
theorem jl_eq : ∀ xs : List (List UInt8), Lib.join xs [32] = jl xs
  | [] => rfl
  | [x] => Lib.join_one x [32]
  | x :: y :: r => by
    have ih := jl_eq (y :: r)
    simp only [Lib.join] at ih ⊢
    rw [jl, ← ih]
    simp [List.intercalate, List.intersperse]
theorem jl_len : ∀ xs : List (List UInt8), (jl xs).length ≤ (xs.map fun x => x.length + 1).sum
  | [] => by simp [jl]
  | [x] => by simp [jl]
  | x :: y :: r => by
    have := jl_len (y :: r)
    simp only [jl, List.length_append, List.length_cons, List.map_cons, List.sum_cons] at *
    omega
theorem joinL_eq (ws : List ByteArray) : joinL ws = jl (ws.map (·.data.toList)) := jl_eq _
theorem hexStr_len (l : List Int) : (hexStr l).size ≤ 2 * l.length + 1 := by
  unfold hexStr
  split
  · rw [bs_size]; simp
  · rw [bs_size, hexL_len]; omega
theorem itoa_size (n : Int) (h : InK .i64 n) : (bs (Lib.itoa n)).size ≤ 21 := by rw [bs_size]; exact Lib.itoa_length_le n h.1 h.2
theorem dec_size (n : Nat) (h : n < 18446744073709551616) : (bs (Lib.decDigits n)).size ≤ 20 := by rw [bs_size, Lib.decDigits_length]; exact Lib.nDigits_le20 n h
theorem opName_size (n : Int) : (opName n).size ≤ 3 := by
  unfold opName
  split
  · decide
  · split
    · decide
    · split <;> decide
theorem kindName_size (k : Int) : (kindName k).size ≤ 5 := by
  unfold kindName
  rw [List.getD_eq_getElem?_getD]
  cases h : nameList[k.toNat]? with
  | none => decide
  | some x =>
    have := List.mem_of_getElem? h
    have key : ∀ y ∈ nameList, y.size ≤ 5 := by decide
    exact key x this
theorem jl_sum (ws : List ByteArray) : (joinL ws).length ≤ (ws.map fun x => x.size + 1).sum := by
  rw [joinL_eq]
  refine Nat.le_trans (jl_len _) ?_
  rw [List.map_map]
  have : ((fun x : List UInt8 => x.length + 1) ∘ fun x : ByteArray => x.data.toList) = fun x : ByteArray => x.size + 1 := by
    funext x
    show x.data.toList.length + 1 = x.data.size + 1
    rw [Array.length_toList]
  rw [this]
  exact Nat.le_refl _
theorem sum_le (M : Nat) : ∀ l : List ByteArray, (∀ x ∈ l, x.size + 1 ≤ M) → (l.map fun x => x.size + 1).sum ≤ l.length * M
  | [], _ => by simp
  | x :: l, h => by
    have h1 := h x (by simp)
    have h2 := sum_le M l (fun y hy => h y (by simp [hy]))
    simp only [List.map_cons, List.sum_cons, List.length_cons, Nat.add_mul]
    omega
theorem ActRow.mono {W : World} {A B : Nat → Prop} {v : Value} {x : Ac} (h : ActRow W A v x) (hAB : ∀ k, A k → k < W.heap.size → B k) : ActRow W B v x := by
  obtain ⟨da, dcap, fa, fcap, e1, h1, h2⟩ := h
  exact ⟨da, dcap, fa, fcap, e1, h1.mono hAB, h2.mono hAB⟩
theorem ActRow.rows {W : World} {A : Nat → Prop} {x : Ac} {da fa : Option Addr} {dcap fcap : Nat} (h : ActRow W A (acVal x.kind x.c x.op x.v x.i x.a x.b x.key x.cookie x.gone (.slice da x.data.length dcap) x.names (.slice fa x.files.length fcap)) x) : Row (Kd.int .u8) W A da dcap x.data ∧ Row Kd.pick W A fa fcap x.files := by
  obtain ⟨da', dcap', fa', fcap', e1, h1, h2⟩ := h
  simp at e1
  obtain ⟨⟨rfl, rfl⟩, rfl, rfl⟩ := e1
  exact ⟨h1, h2⟩
theorem ActRow.files {W : World} {A : Nat → Prop} {v : Value} {x : Ac} (h : ActRow W A v x) : ∀ p ∈ x.files, InK .i64 p.keep ∧ InK .u8 p.turn := by
  obtain ⟨da, dcap, fa, fcap, rfl, _, hr⟩ := h
  intro p hp
  obtain ⟨i, hi, rfl⟩ := List.getElem_of_mem hp
  obtain ⟨b, off, rfl, _, _⟩ := hr.some_of (by omega)
  obtain ⟨c, ⟨c1, c2, _, ⟨_, h1⟩, ⟨_, h2⟩⟩, _⟩ := hr.at_ i hi
  exact ⟨h1, h2⟩
theorem pickWord_size (p : Pk) (h : InK .i64 p.keep ∧ InK .u8 p.turn) : (pickWord p).size ≤ 43 := by
  have h1 := Lib.itoa_length_le p.keep h.1.1 h.1.2
  have h3 := h.2
  simp only [InK] at h3
  have h2 := Lib.itoa_length_le p.turn (by omega) (by omega)
  rw [pickWord, bs_size]
  simp only [List.length_append, List.length_cons]
  omega
theorem wordsOf_len (x : Ac) : (wordsOf x).length ≤ x.files.length + 8 := by
  simp only [wordsOf, List.length_cons]
  unfold argsOf
  repeat' split
  all_goals simp
  all_goals omega
theorem actS_files (k : Int) (s : Rd) : (actS k s).1.files.length ≤ s.1.length := by
  unfold actS
  by_cases h0 : k = 0
  · rw [if_pos h0]
    by_cases ho : (rOp (rNum s).2).1 = 1
    · rw [if_pos ho]; simp
    · rw [if_neg ho]; simp
  rw [if_neg h0]
  by_cases h1 : k = 1
  · rw [if_pos h1]
    simp
  rw [if_neg h1]
  by_cases h2 : k = 2
  · rw [if_pos h2]
    simp
  rw [if_neg h2]
  by_cases h3 : k = 3
  · rw [if_pos h3]
    simp
  rw [if_neg h3]
  by_cases h4 : k = 4
  · rw [if_pos h4]
    simp
  rw [if_neg h4]
  by_cases h5 : k = 5
  · rw [if_pos h5]
    simp
  rw [if_neg h5]
  by_cases h6 : k = 6
  · rw [if_pos h6]
    simp
  rw [if_neg h6]
  by_cases h7 : k = 7
  · rw [if_pos h7]
    simp
  rw [if_neg h7]
  by_cases h8 : k = 8
  · rw [if_pos h8]
    simp
  rw [if_neg h8]
  by_cases h9 : k = 9
  · rw [if_pos h9]
    simp only [rPicks_len, rNum, Rd.on, List.length_tail]; omega
  rw [if_neg h9]
  by_cases h10 : k = 10
  · rw [if_pos h10]
    simp
  rw [if_neg h10]
  by_cases h11 : k = 11
  · rw [if_pos h11]
    simp
  rw [if_neg h11]
  simp
theorem joinL_words (x : Ac) (hx : AcIn x) (hf : ∀ p ∈ x.files, InK .i64 p.keep ∧ InK .u8 p.turn) : (joinL (wordsOf x)).length ≤ 100000000 := by
  refine Nat.le_trans (jl_sum _) ?_
  have hk := kindName_size x.kind
  have hc := itoa_size x.c hx.c
  have ho := itoa_size x.op hx.op
  have hv := itoa_size x.v hx.v
  have hi := itoa_size x.i hx.i
  have ha := itoa_size x.a hx.a
  have hb := itoa_size x.b hx.b
  have hn := itoa_size x.names hx.names
  have hon := opName_size x.op
  have h1 := hx.key
  have h2 := hx.cookie
  simp only [InK] at h1 h2
  have hkey := dec_size x.key.toNat (by omega)
  have hck := dec_size x.cookie.toNat (by omega)
  have hd := hexStr_len x.data
  have hdl := hx.data
  have hfl := hx.files
  have hfs := sum_le 44 (x.files.map pickWord) (fun y hy => by
    obtain ⟨p, hp, rfl⟩ := List.mem_map.1 hy
    have := pickWord_size p (hf p hp)
    omega)
  rw [List.length_map] at hfs
  simp only [wordsOf, List.map_cons, List.sum_cons]
  unfold argsOf
  split
  · split <;> simp only [List.map_append, List.map_cons, List.map_nil, List.sum_append, List.sum_cons, List.sum_nil] <;> omega
  · split
    · simp only [List.map_cons, List.map_nil, List.sum_cons, List.sum_nil]; omega
    · split
      · simp only [List.map_cons, List.map_nil, List.sum_cons, List.sum_nil]; omega
      · split
        · simp only [List.map_cons, List.map_nil, List.sum_cons, List.sum_nil]; omega
        · split
          · simp only [List.map_cons, List.map_nil, List.sum_cons, List.sum_nil]; omega
          · split
            · simp only [List.map_cons, List.map_nil, List.sum_cons, List.sum_nil]; omega
            · split
              · simp only [List.map_append, List.map_cons, List.map_nil, List.sum_append, List.sum_cons, List.sum_nil]; omega
              · simp only [List.map_cons, List.map_nil, List.sum_cons, List.sum_nil]; omega
end Go.Proofs.YtjipffbnndbchaaGreatDoor
