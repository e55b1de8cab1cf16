/- The walks of the statements' Code. -/
import Derived.Test.YtjipffbnndbchaaGreatDoorErr
namespace Go.Proofs.YtjipffbnndbchaaGreatDoor
open Go.RowKit
set_option maxRecDepth 100000

theorem code_nil (w : World) : Calls Tryz.prog 15 #[.nilIface] w fun e w' => e = .returned (.int .i64 0) ∧ Ext w w' := by
  go_enter Tryz.func15, Tryz.ntmps15
  go_wp2
  go_ret
  exact ⟨rfl, Ext.rfl_ _⟩
set_option maxHeartbeats 1000000 in
theorem code_of (k : Int) (h1 : 1 ≤ k) (h2 : k ≤ 17) (w : World) : Calls Tryz.prog 15 #[codeV k] w fun e w' => e = .returned (.int .i64 k) ∧ Ext w w' := by
  go_enter Tryz.func15, Tryz.ntmps15
  go_wp2_with fail
  go_loop [3] (fun c => ∃ m : Nat, 1 ≤ m ∧ (m : Int) ≤ k ∧ c = .int .i64 m) (fun c => (k - intOf c).toNat)
  case atStart => exact ⟨1, by omega, by omega, rfl⟩
  case round =>
    obtain ⟨m, hm1, hm2, rfl⟩ := hrel
    by_cases hk : k = (m : Int)
    · have he : (k == (m : Int)) = true := by rw [beq_iff_eq]; exact hk
      have HK := Lib.hid hk
      clear hk
      go_wp2_with (go_at_call 35; go_must (with_reducible refine (errIs_calls _ _ _).mono ?_); rintro e w2 ⟨rfl, rfl⟩)
      go_ret
      exact ⟨ret_int HK.out.symm, Ext.rfl_ _⟩
    · have he : (k == (m : Int)) = false := by rw [beq_eq_false_iff_ne]; exact hk
      go_wp2_with (go_at_call 35; go_must (with_reducible refine (errIs_calls _ _ _).mono ?_); rintro e w2 ⟨rfl, rfl⟩)
      go_round
      case rel => exact ⟨m + 1, by omega, by omega, by go_num⟩
      case measure => simp [intOf]; omega
end Go.Proofs.YtjipffbnndbchaaGreatDoor
