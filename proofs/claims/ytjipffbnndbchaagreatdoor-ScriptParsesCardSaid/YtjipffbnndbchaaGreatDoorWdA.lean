/- The walks of script: data as hex digits. -/
import Derived.Test.YtjipffbnndbchaaGreatDoorScrD
import Derived.Test.YtjipffbnndbchaaGreatDoorBld
namespace Go.Proofs.YtjipffbnndbchaaGreatDoor
open Go.RowKit
set_option maxRecDepth 100000

def hexD (n : Int) : UInt8 := [48, 49, 50, 51, 52, 53, 54, 55, 56, 57, 97, 98, 99, 100, 101, 102].getD n.toNat 0
def hexL : List Int → List UInt8
  | [] => []
  | c :: l => hexD (c / 16) :: hexD (c % 16) :: hexL l
def hexStr (l : List Int) : ByteArray := if l = [] then bs [45] else bs (hexL l)

theorem digit_at (n : Nat) (h : n < (⟨#[48, 49, 50, 51, 52, 53, 54, 55, 56, 57, 97, 98, 99, 100, 101, 102]⟩ : ByteArray).size) : (⟨#[48, 49, 50, 51, 52, 53, 54, 55, 56, 57, 97, 98, 99, 100, 101, 102]⟩ : ByteArray)[n] = [48, 49, 50, 51, 52, 53, 54, 55, 56, 57, 97, 98, 99, 100, 101, 102].getD n 0 := by
  have : ∀ k : Fin 16, (⟨#[48, 49, 50, 51, 52, 53, 54, 55, 56, 57, 97, 98, 99, 100, 101, 102]⟩ : ByteArray)[k.val]'(k.isLt) = [48, 49, 50, 51, 52, 53, 54, 55, 56, 57, 97, 98, 99, 100, 101, 102].getD k.val 0 := by decide
  exact this ⟨n, h⟩
theorem hexL_snoc (c : Int) : ∀ l : List Int, hexL (l ++ [c]) = hexL l ++ [hexD (c / 16), hexD (c % 16)]
  | [] => rfl
  | x :: l => by simp [hexL, hexL_snoc c l]
theorem hexL_len : ∀ l : List Int, (hexL l).length = 2 * l.length
  | [] => rfl
  | x :: l => by simp [hexL, hexL_len l]; omega

set_option maxHeartbeats 1000000 in
theorem sdata_calls (a : Option Addr) (xs : List Int) (cap : Nat) (w : World) (hr : Row (Kd.int .u8) w (fun _ => True) a cap xs) (hl : xs.length ≤ 1000000) :
    Calls Tryz.prog 65 #[.slice a xs.length cap] w fun e w' => e = .returned (.string (hexStr xs)) ∧ Ext w w' := by
  by_cases h0 : xs = []
  · subst h0
    clear hr
    go_enter Tryz.func65, Tryz.ntmps65
    go_wp2
    go_ret
    exact ⟨ret_str rfl, Ext.rfl_ _⟩
  · have hp : 0 < xs.length := List.length_pos_iff.2 h0
    obtain ⟨b, off, rfl, hb, _⟩ := hr.some_of hp
    have HR := Lib.hid hr
    clear hr
    have hp0 : ((xs.length : Int) == 0) = false := by rw [beq_eq_false_iff_ne]; omega
    go_enter Tryz.func65, Tryz.ntmps65
    go_wp2_with fail
    go_loopw [11] (fun i wr => ∃ m : Nat, m ≤ xs.length ∧ i = .int .i64 m ∧ Bld w wr w.heap.size (hexL (xs.take m)) 2000000) (fun i _ => xs.length - (intOf i).toNat)
    case atStart => exact ⟨0, by omega, rfl, (Bld.fresh w).upto _ (by simp)⟩
    case round =>
      obtain ⟨m, hm, rfl, hb1⟩ := hrel
      have HB := Lib.hid hb1
      have HR1 := Lib.hid (HR.out.below hb1.ext)
      clear hb1
      by_cases hlt : m < xs.length
      · obtain ⟨cs, hk, hc⟩ := HR1.out.at_ m hlt
        rw [Kd.int_K] at hk
        obtain ⟨rfl, hin⟩ := hk
        have hc0 := hc 0 _ rfl
        simp only [Kd.int, Kd.scalar, Nat.mul_one, Nat.add_zero] at hc0
        simp only [InK] at hin
        generalize hcc : xs[m] = c at *
        have HC := Lib.hid hcc
        clear hcc
        have hq : 0 ≤ c / 16 ∧ c / 16 ≤ 15 := by omega
        go_wp2_with (go_at_call 89; go_must (with_reducible refine (bld_byte HB.out _ (by decide)).mono ?_); rintro e w2 ⟨rfl, hb2⟩; have HB := Lib.hid hb2; clear hb2)
        go_roundw
        case rel =>
          refine ⟨m + 1, by omega, by go_num, ?_⟩
          have e : xs.take (m + 1) = xs.take m ++ [c] := by rw [List.take_add_one, List.getElem?_eq_getElem hlt, HC.out]; rfl
          have hB := HB.out
          rw [digit_at, digit_at] at hB
          have h2 : Bld w w2 w.heap.size (hexL (xs.take (m + 1))) (2000000 + 1 + 1) := by rw [e, hexL_snoc]; simpa [hexD] using hB
          exact h2.upto 2000000 (by rw [hexL_len, List.length_take]; omega)
        case measure => simp [intOf]; omega
      · have hml : m = xs.length := by omega
        have HM := Lib.hid (show hexL (xs.take m) = hexL xs from by rw [hml, List.take_length])
        clear hlt
        have HX := Lib.hid (HM.out ▸ HB.out)
        go_wp2_with (go_at_call 27; go_must (with_reducible refine (bld_string HX.out).mono ?_); rintro e w2 ⟨rfl, he2⟩; have HE2 := Lib.hid he2; clear he2)
        go_ret
        exact ⟨ret_str (by rw [hexStr, if_neg h0]), HE2.out⟩
end Go.Proofs.YtjipffbnndbchaaGreatDoor
