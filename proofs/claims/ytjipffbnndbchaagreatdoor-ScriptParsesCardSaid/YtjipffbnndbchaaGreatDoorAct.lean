/- The act of words: what script's act computes. -/
import Derived.Test.YtjipffbnndbchaaGreatDoorActA
import Derived.Test.YtjipffbnndbchaaGreatDoorActB
import Derived.Test.YtjipffbnndbchaaGreatDoorActC
import Derived.Test.YtjipffbnndbchaaGreatDoorActD
import Derived.Test.YtjipffbnndbchaaGreatDoorActE
namespace Go.Proofs.YtjipffbnndbchaaGreatDoor
open Go.RowKit
set_option maxRecDepth 100000

/-- The act of a kind, out of what words are left, and the reader's state behind it. -/
def actS (k : Int) (s : Rd) : Ac × Rd :=
  if k = 0 then
    if (rOp (rNum s).2).1 = 1 then
      ({ kind := 0, c := (rNum s).1, op := (rOp (rNum s).2).1, v := (rNum (rOp (rNum s).2).2).1, key := ((rBig 64 (rNum (rOp (rNum s).2).2).2).1 : Int), cookie := ((rBig 32 (rBig 64 (rNum (rOp (rNum s).2).2).2).2).1 : Int) % 4294967296, data := (rData (rBig 32 (rBig 64 (rNum (rOp (rNum s).2).2).2).2).2).1 }, (rData (rBig 32 (rBig 64 (rNum (rOp (rNum s).2).2).2).2).2).2)
    else
      ({ kind := 0, c := (rNum s).1, op := (rOp (rNum s).2).1, v := (rNum (rOp (rNum s).2).2).1, key := ((rBig 64 (rNum (rOp (rNum s).2).2).2).1 : Int), cookie := ((rBig 32 (rBig 64 (rNum (rOp (rNum s).2).2).2).2).1 : Int) % 4294967296 }, (rBig 32 (rBig 64 (rNum (rOp (rNum s).2).2).2).2).2)
  else if k = 1 then ({ kind := 1, c := (rNum s).1 }, (rNum s).2)
  else if k = 2 then ({ kind := 2, i := (rNum s).1 }, (rNum s).2)
  else if k = 3 then ({ kind := 3, i := (rNum s).1 }, (rNum s).2)
  else if k = 4 then ({ kind := 4, i := (rNum s).1 }, (rNum s).2)
  else if k = 5 then ({ kind := 5, a := (rNum s).1, b := (rNum (rNum s).2).1 }, (rNum (rNum s).2).2)
  else if k = 6 then ({ kind := 6, a := (rNum s).1, b := (rNum (rNum s).2).1 }, (rNum (rNum s).2).2)
  else if k = 7 then ({ kind := 7, a := (rNum s).1, op := (rNum (rNum s).2).1, v := (rNum (rNum (rNum s).2).2).1 }, (rNum (rNum (rNum s).2).2).2)
  else if k = 8 then ({ kind := 8, a := (rNum s).1, i := (rNum (rNum s).2).1 }, (rNum (rNum s).2).2)
  else if k = 9 then ({ kind := 9, a := (rNum s).1, names := (rNum (rNum s).2).1, files := (rPicks (rNum (rNum s).2).2.1.length (rNum (rNum s).2).2).1 }, (rPicks (rNum (rNum s).2).2.1.length (rNum (rNum s).2).2).2)
  else if k = 10 then ({ kind := 10, a := (rNum s).1 }, (rNum s).2)
  else if k = 11 then ({ kind := 11, c := (rNum s).1 }, (rNum s).2)
  else ({ kind := k }, (s.1, true))
/-- The act of a line's words, and the reader's state behind it. -/
def actOf (l : List ByteArray) : Ac × Rd := actS (Lib.idxOfS nameList (l.headD (bs []))) (l.tail, (false || l.isEmpty))

theorem act_calls {B : Nat} (a : Option Addr) (l : List ByteArray) (cap : Nat) (w : World) (hr : Row Kd.str w (fun _ => True) a cap l) (hs : Small l) (hl : l.length ≤ 2000000) (hG : Glob B w) :
    Calls Tryz.prog 37 #[.slice a l.length cap] w fun e w' => ActR w (actOf l).1 (actOf l).2 e w' := by
  unfold actOf
  obtain ⟨k, hk⟩ : ∃ k, k = Lib.idxOfS nameList (l.headD (bs [])) := ⟨_, rfl⟩
  rw [← hk]
  unfold actS
  by_cases h0 : k = 0
  · by_cases ho : (rOp (rNum (l.tail, (false || l.isEmpty))).2).1 = 1
    · rw [if_pos h0, if_pos ho]
      refine (act_0p a l cap w hr hs hG k _ _ rfl rfl hk h0 ho)
    · rw [if_pos h0, if_neg ho]
      exact act_0n a l cap w hr hs hG k _ _ rfl rfl hk h0 ho
  rw [if_neg h0]
  by_cases h1 : k = 1
  · rw [if_pos h1]; exact act_1 a l cap w hr hs hG k _ _ rfl rfl hk h1
  rw [if_neg h1]
  by_cases h2 : k = 2
  · rw [if_pos h2]; exact act_2 a l cap w hr hs hG k _ _ rfl rfl hk h2
  rw [if_neg h2]
  by_cases h3 : k = 3
  · rw [if_pos h3]; exact act_3 a l cap w hr hs hG k _ _ rfl rfl hk h3
  rw [if_neg h3]
  by_cases h4 : k = 4
  · rw [if_pos h4]; exact act_4 a l cap w hr hs hG k _ _ rfl rfl hk h4
  rw [if_neg h4]
  by_cases h5 : k = 5
  · rw [if_pos h5]; exact act_5 a l cap w hr hs hG k _ _ rfl rfl hk h5
  rw [if_neg h5]
  by_cases h6 : k = 6
  · rw [if_pos h6]; exact act_6 a l cap w hr hs hG k _ _ rfl rfl hk h6
  rw [if_neg h6]
  by_cases h7 : k = 7
  · rw [if_pos h7]; exact act_7 a l cap w hr hs hG k _ _ rfl rfl hk h7
  rw [if_neg h7]
  by_cases h8 : k = 8
  · rw [if_pos h8]; exact act_8 a l cap w hr hs hG k _ _ rfl rfl hk h8
  rw [if_neg h8]
  by_cases h9 : k = 9
  · rw [if_pos h9]; exact act_9 a l cap w hr hs hG k _ _ rfl rfl hk h9 hl
  rw [if_neg h9]
  by_cases h10 : k = 10
  · rw [if_pos h10]; exact act_10 a l cap w hr hs hG k _ _ rfl rfl hk h10
  rw [if_neg h10]
  by_cases h11 : k = 11
  · rw [if_pos h11]; exact act_11 a l cap w hr hs hG k _ _ rfl rfl hk h11
  rw [if_neg h11]
  exact act_no a l cap w hr hs hG k _ _ rfl rfl hk (beq_eq_false_iff_ne.2 h0) (beq_eq_false_iff_ne.2 h1) (beq_eq_false_iff_ne.2 h2) (beq_eq_false_iff_ne.2 h3) (beq_eq_false_iff_ne.2 h4) (beq_eq_false_iff_ne.2 h5) (beq_eq_false_iff_ne.2 h6) (beq_eq_false_iff_ne.2 h7) (beq_eq_false_iff_ne.2 h8) (beq_eq_false_iff_ne.2 h9) (beq_eq_false_iff_ne.2 h10) (beq_eq_false_iff_ne.2 h11)
end Go.Proofs.YtjipffbnndbchaaGreatDoor
