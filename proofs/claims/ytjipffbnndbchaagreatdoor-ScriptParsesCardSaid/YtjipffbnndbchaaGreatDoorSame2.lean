/- The walk of script.same. Printed by gen_same.py. -/
import Derived.Test.YtjipffbnndbchaaGreatDoorSame
import Derived.Test.YtjipffbnndbchaaGreatDoorWords
namespace Go.Proofs.YtjipffbnndbchaaGreatDoor
open Go.RowKit
set_option maxRecDepth 100000

set_option maxHeartbeats 4000000 in
theorem same_walk (k1 c1 o1 v1 i1 a1 b1 key1 ck1 : Int) (g1 : Bool) (da1 : Option Addr) (dcap1 : Nat) (xs1 : List Int) (nm1 : Int) (fa1 : Option Addr) (fcap1 : Nat) (ps1 : List Pk) (k2 c2 o2 v2 i2 a2 b2 key2 ck2 : Int) (g2 : Bool) (da2 : Option Addr) (dcap2 : Nat) (xs2 : List Int) (nm2 : Int) (fa2 : Option Addr) (fcap2 : Nat) (ps2 : List Pk) (w : World) (h1 : Row (Kd.int .u8) w (fun _ => True) da1 dcap1 xs1) (h2 : Row (Kd.int .u8) w (fun _ => True) da2 dcap2 xs2) (k1' : Row Kd.pick w (fun _ => True) fa1 fcap1 ps1) (k2' : Row Kd.pick w (fun _ => True) fa2 fcap2 ps2) :
    Calls Tryz.prog 39 #[(acVal k1 c1 o1 v1 i1 a1 b1 key1 ck1 g1 (.slice da1 xs1.length dcap1) nm1 (.slice fa1 ps1.length fcap1)), (acVal k2 c2 o2 v2 i2 a2 b2 key2 ck2 g2 (.slice da2 xs2.length dcap2) nm2 (.slice fa2 ps2.length fcap2))] w fun e w' => e = .returned (.bool ((k1 == k2) && ((c1 == c2) && ((o1 == o2) && ((v1 == v2) && ((i1 == i2) && ((a1 == a2) && ((b1 == b2) && (((key1 == key2) && ((ck1 == ck2) && ((g1 == g2) && decide (xs1 = xs2)))) && ((nm1 == nm2) && decide (ps1 = ps2))))))))))) ∧ Ext w w' := by
  have HE := Lib.hid (Ext.alloc (Ext.alloc (Ext.rfl_ w) (.cells #[.int .i64 k1, .int .i64 c1, .int .i64 o1, .int .i64 v1, .int .i64 i1, .int .i64 a1, .int .i64 b1, .int .u64 key1, .int .u32 ck1, .bool g1, .slice da1 xs1.length dcap1, .int .i64 nm1, .slice fa1 ps1.length fcap1] 56)) (.cells #[.int .i64 k2, .int .i64 c2, .int .i64 o2, .int .i64 v2, .int .i64 i2, .int .i64 a2, .int .i64 b2, .int .u64 key2, .int .u32 ck2, .bool g2, .slice da2 xs2.length dcap2, .int .i64 nm2, .slice fa2 ps2.length fcap2] 56))
  have hns := needleSame_calls key1 key2 ck1 ck2 g1 g2 da1 da2 dcap1 dcap2 xs1 xs2 _ (h1.below HE.out) (h2.below HE.out)
  have hpe := fun (W : World) (e : Ext w W) => peq_calls fa1 fa2 fcap1 fcap2 ps1 ps2 W (k1'.below e) (k2'.below e)
  have hcell : ∀ w2, Ext ((w.alloc (.cells #[.int .i64 k1, .int .i64 c1, .int .i64 o1, .int .i64 v1, .int .i64 i1, .int .i64 a1, .int .i64 b1, .int .u64 key1, .int .u32 ck1, .bool g1, .slice da1 xs1.length dcap1, .int .i64 nm1, .slice fa1 ps1.length fcap1] 56)).alloc (.cells #[.int .i64 k2, .int .i64 c2, .int .i64 o2, .int .i64 v2, .int .i64 i2, .int .i64 a2, .int .i64 b2, .int .u64 key2, .int .u32 ck2, .bool g2, .slice da2 xs2.length dcap2, .int .i64 nm2, .slice fa2 ps2.length fcap2] 56)) w2 → w2.cell? ⟨w.heap.size, 11, none⟩ = some (.int .i64 nm1) ∧ w2.cell? ⟨w.heap.size, 12, none⟩ = some (.slice fa1 ps1.length fcap1) ∧ w2.cell? ⟨w.heap.size + 1, 11, none⟩ = some (.int .i64 nm2) ∧ w2.cell? ⟨w.heap.size + 1, 12, none⟩ = some (.slice fa2 ps2.length fcap2) := fun w2 e => by
    obtain ⟨_, _, _, _, _, _, _, _, _, _, _, p1, p2, _⟩ := act_cells ((e.block w.heap.size (by simp; omega)).trans (alloc2_fst w (.cells #[.int .i64 k1, .int .i64 c1, .int .i64 o1, .int .i64 v1, .int .i64 i1, .int .i64 a1, .int .i64 b1, .int .u64 key1, .int .u32 ck1, .bool g1, .slice da1 xs1.length dcap1, .int .i64 nm1, .slice fa1 ps1.length fcap1] 56) (.cells #[.int .i64 k2, .int .i64 c2, .int .i64 o2, .int .i64 v2, .int .i64 i2, .int .i64 a2, .int .i64 b2, .int .u64 key2, .int .u32 ck2, .bool g2, .slice da2 xs2.length dcap2, .int .i64 nm2, .slice fa2 ps2.length fcap2] 56)))
    obtain ⟨_, _, _, _, _, _, _, _, _, _, _, p3, p4, _⟩ := act_cells ((e.block (w.heap.size + 1) (by simp)).trans (alloc2_snd w (.cells #[.int .i64 k1, .int .i64 c1, .int .i64 o1, .int .i64 v1, .int .i64 i1, .int .i64 a1, .int .i64 b1, .int .u64 key1, .int .u32 ck1, .bool g1, .slice da1 xs1.length dcap1, .int .i64 nm1, .slice fa1 ps1.length fcap1] 56) (.cells #[.int .i64 k2, .int .i64 c2, .int .i64 o2, .int .i64 v2, .int .i64 i2, .int .i64 a2, .int .i64 b2, .int .u64 key2, .int .u32 ck2, .bool g2, .slice da2 xs2.length dcap2, .int .i64 nm2, .slice fa2 ps2.length fcap2] 56)))
    exact ⟨p1, p2, p3, p4⟩
  obtain ⟨z0, hz0⟩ : ∃ z, z = (k1 == k2) := ⟨_, rfl⟩
  obtain ⟨z1, hz1⟩ : ∃ z, z = (c1 == c2) := ⟨_, rfl⟩
  obtain ⟨z2, hz2⟩ : ∃ z, z = (o1 == o2) := ⟨_, rfl⟩
  obtain ⟨z3, hz3⟩ : ∃ z, z = (v1 == v2) := ⟨_, rfl⟩
  obtain ⟨z4, hz4⟩ : ∃ z, z = (i1 == i2) := ⟨_, rfl⟩
  obtain ⟨z5, hz5⟩ : ∃ z, z = (a1 == a2) := ⟨_, rfl⟩
  obtain ⟨z6, hz6⟩ : ∃ z, z = (b1 == b2) := ⟨_, rfl⟩
  obtain ⟨z7, hz7⟩ : ∃ z, z = ((key1 == key2) && ((ck1 == ck2) && ((g1 == g2) && decide (xs1 = xs2)))) := ⟨_, rfl⟩
  obtain ⟨z8, hz8⟩ : ∃ z, z = (nm1 == nm2) := ⟨_, rfl⟩
  obtain ⟨z9, hz9⟩ : ∃ z, z = decide (ps1 = ps2) := ⟨_, rfl⟩
  rw [← hz0, ← hz1, ← hz2, ← hz3, ← hz4, ← hz5, ← hz6, ← hz7, ← hz8, ← hz9]
  rw [← hz7] at hns
  rw [← hz9] at hpe
  have HNS := Lib.hid hns
  have HPE := Lib.hid hpe
  have HCELL := Lib.hid hcell
  clear hns hpe hcell h1 h2 k1' k2' hz7 hz9
  have q0 := hz0.symm
  clear hz0
  have q1 := hz1.symm
  clear hz1
  have q2 := hz2.symm
  clear hz2
  have q3 := hz3.symm
  clear hz3
  have q4 := hz4.symm
  clear hz4
  have q5 := hz5.symm
  clear hz5
  have q6 := hz6.symm
  clear hz6
  have q8 := hz8.symm
  clear hz8
  cases z0
  · go_enter Tryz.func39, Tryz.ntmps39
    go_wp2_with (first | (go_at_call 66; go_must (with_reducible refine HNS.out.mono ?_); rintro e w2 ⟨rfl, he⟩; have HE2 := Lib.hid (HE.out.trans he); have HC2 := Lib.hid (bcell he); obtain ⟨x11, x12, y11, y12⟩ := HCELL.out w2 he; clear he) | (go_at_call 67; go_must (with_reducible refine (HPE.out _ HE2.out).mono ?_); rintro e w3 ⟨rfl, he⟩; have HE3 := Lib.hid (HE2.out.trans he); clear he))
    go_ret
    exact ⟨rfl, by first | exact HE3.out | exact HE2.out | exact HE.out⟩
  · cases z1
    · go_enter Tryz.func39, Tryz.ntmps39
      go_wp2_with (first | (go_at_call 66; go_must (with_reducible refine HNS.out.mono ?_); rintro e w2 ⟨rfl, he⟩; have HE2 := Lib.hid (HE.out.trans he); have HC2 := Lib.hid (bcell he); obtain ⟨x11, x12, y11, y12⟩ := HCELL.out w2 he; clear he) | (go_at_call 67; go_must (with_reducible refine (HPE.out _ HE2.out).mono ?_); rintro e w3 ⟨rfl, he⟩; have HE3 := Lib.hid (HE2.out.trans he); clear he))
      go_ret
      exact ⟨rfl, by first | exact HE3.out | exact HE2.out | exact HE.out⟩
    · cases z2
      · go_enter Tryz.func39, Tryz.ntmps39
        go_wp2_with (first | (go_at_call 66; go_must (with_reducible refine HNS.out.mono ?_); rintro e w2 ⟨rfl, he⟩; have HE2 := Lib.hid (HE.out.trans he); have HC2 := Lib.hid (bcell he); obtain ⟨x11, x12, y11, y12⟩ := HCELL.out w2 he; clear he) | (go_at_call 67; go_must (with_reducible refine (HPE.out _ HE2.out).mono ?_); rintro e w3 ⟨rfl, he⟩; have HE3 := Lib.hid (HE2.out.trans he); clear he))
        go_ret
        exact ⟨rfl, by first | exact HE3.out | exact HE2.out | exact HE.out⟩
      · cases z3
        · go_enter Tryz.func39, Tryz.ntmps39
          go_wp2_with (first | (go_at_call 66; go_must (with_reducible refine HNS.out.mono ?_); rintro e w2 ⟨rfl, he⟩; have HE2 := Lib.hid (HE.out.trans he); have HC2 := Lib.hid (bcell he); obtain ⟨x11, x12, y11, y12⟩ := HCELL.out w2 he; clear he) | (go_at_call 67; go_must (with_reducible refine (HPE.out _ HE2.out).mono ?_); rintro e w3 ⟨rfl, he⟩; have HE3 := Lib.hid (HE2.out.trans he); clear he))
          go_ret
          exact ⟨rfl, by first | exact HE3.out | exact HE2.out | exact HE.out⟩
        · cases z4
          · go_enter Tryz.func39, Tryz.ntmps39
            go_wp2_with (first | (go_at_call 66; go_must (with_reducible refine HNS.out.mono ?_); rintro e w2 ⟨rfl, he⟩; have HE2 := Lib.hid (HE.out.trans he); have HC2 := Lib.hid (bcell he); obtain ⟨x11, x12, y11, y12⟩ := HCELL.out w2 he; clear he) | (go_at_call 67; go_must (with_reducible refine (HPE.out _ HE2.out).mono ?_); rintro e w3 ⟨rfl, he⟩; have HE3 := Lib.hid (HE2.out.trans he); clear he))
            go_ret
            exact ⟨rfl, by first | exact HE3.out | exact HE2.out | exact HE.out⟩
          · cases z5
            · go_enter Tryz.func39, Tryz.ntmps39
              go_wp2_with (first | (go_at_call 66; go_must (with_reducible refine HNS.out.mono ?_); rintro e w2 ⟨rfl, he⟩; have HE2 := Lib.hid (HE.out.trans he); have HC2 := Lib.hid (bcell he); obtain ⟨x11, x12, y11, y12⟩ := HCELL.out w2 he; clear he) | (go_at_call 67; go_must (with_reducible refine (HPE.out _ HE2.out).mono ?_); rintro e w3 ⟨rfl, he⟩; have HE3 := Lib.hid (HE2.out.trans he); clear he))
              go_ret
              exact ⟨rfl, by first | exact HE3.out | exact HE2.out | exact HE.out⟩
            · cases z6
              · go_enter Tryz.func39, Tryz.ntmps39
                go_wp2_with (first | (go_at_call 66; go_must (with_reducible refine HNS.out.mono ?_); rintro e w2 ⟨rfl, he⟩; have HE2 := Lib.hid (HE.out.trans he); have HC2 := Lib.hid (bcell he); obtain ⟨x11, x12, y11, y12⟩ := HCELL.out w2 he; clear he) | (go_at_call 67; go_must (with_reducible refine (HPE.out _ HE2.out).mono ?_); rintro e w3 ⟨rfl, he⟩; have HE3 := Lib.hid (HE2.out.trans he); clear he))
                go_ret
                exact ⟨rfl, by first | exact HE3.out | exact HE2.out | exact HE.out⟩
              · cases z7
                · go_enter Tryz.func39, Tryz.ntmps39
                  go_wp2_with (first | (go_at_call 66; go_must (with_reducible refine HNS.out.mono ?_); rintro e w2 ⟨rfl, he⟩; have HE2 := Lib.hid (HE.out.trans he); have HC2 := Lib.hid (bcell he); obtain ⟨x11, x12, y11, y12⟩ := HCELL.out w2 he; clear he) | (go_at_call 67; go_must (with_reducible refine (HPE.out _ HE2.out).mono ?_); rintro e w3 ⟨rfl, he⟩; have HE3 := Lib.hid (HE2.out.trans he); clear he))
                  go_ret
                  exact ⟨rfl, by first | exact HE3.out | exact HE2.out | exact HE.out⟩
                · cases z8
                  · go_enter Tryz.func39, Tryz.ntmps39
                    go_wp2_with (first | (go_at_call 66; go_must (with_reducible refine HNS.out.mono ?_); rintro e w2 ⟨rfl, he⟩; have HE2 := Lib.hid (HE.out.trans he); have HC2 := Lib.hid (bcell he); obtain ⟨x11, x12, y11, y12⟩ := HCELL.out w2 he; clear he) | (go_at_call 67; go_must (with_reducible refine (HPE.out _ HE2.out).mono ?_); rintro e w3 ⟨rfl, he⟩; have HE3 := Lib.hid (HE2.out.trans he); clear he))
                    go_ret
                    exact ⟨rfl, by first | exact HE3.out | exact HE2.out | exact HE.out⟩
                  · cases z9
                    · go_enter Tryz.func39, Tryz.ntmps39
                      go_wp2_with (first | (go_at_call 66; go_must (with_reducible refine HNS.out.mono ?_); rintro e w2 ⟨rfl, he⟩; have HE2 := Lib.hid (HE.out.trans he); have HC2 := Lib.hid (bcell he); obtain ⟨x11, x12, y11, y12⟩ := HCELL.out w2 he; clear he) | (go_at_call 67; go_must (with_reducible refine (HPE.out _ HE2.out).mono ?_); rintro e w3 ⟨rfl, he⟩; have HE3 := Lib.hid (HE2.out.trans he); clear he))
                      go_ret
                      exact ⟨rfl, by first | exact HE3.out | exact HE2.out | exact HE.out⟩
                    · go_enter Tryz.func39, Tryz.ntmps39
                      go_wp2_with (first | (go_at_call 66; go_must (with_reducible refine HNS.out.mono ?_); rintro e w2 ⟨rfl, he⟩; have HE2 := Lib.hid (HE.out.trans he); have HC2 := Lib.hid (bcell he); obtain ⟨x11, x12, y11, y12⟩ := HCELL.out w2 he; clear he) | (go_at_call 67; go_must (with_reducible refine (HPE.out _ HE2.out).mono ?_); rintro e w3 ⟨rfl, he⟩; have HE3 := Lib.hid (HE2.out.trans he); clear he))
                      go_ret
                      exact ⟨rfl, by first | exact HE3.out | exact HE2.out | exact HE.out⟩

theorem same_calls (v1 v2 : Value) (x y : Ac) (w : World) (h1 : ActRow w (fun _ => True) v1 x) (h2 : ActRow w (fun _ => True) v2 y) :
    Calls Tryz.prog 39 #[v1, v2] w fun e w' => e = .returned (.bool (decide (x = y))) ∧ Ext w w' := by
  obtain ⟨da1, dcap1, fa1, fcap1, rfl, hd1, hf1⟩ := h1
  obtain ⟨da2, dcap2, fa2, fcap2, rfl, hd2, hf2⟩ := h2
  refine (same_walk _ _ _ _ _ _ _ _ _ _ _ _ _ _ _ _ _ _ _ _ _ _ _ _ _ _ _ _ _ _ _ _ _ _ w hd1 hd2 hf1 hf2).mono ?_
  rintro e w' ⟨rfl, he⟩
  refine ⟨ret_bool ?_, he⟩
  cases x
  cases y
  rw [Bool.eq_iff_iff]
  simp only [Bool.and_eq_true, beq_iff_eq, decide_eq_true_iff, Ac.mk.injEq]
  constructor
  · rintro ⟨e1, e2, e3, e4, e5, e6, e7, ⟨e8, e9, e10, e11⟩, e12, e13⟩
    exact ⟨e1, e2, e3, e4, e5, e6, e7, e8, e9, e10, e11, e12, e13⟩
  · rintro ⟨e1, e2, e3, e4, e5, e6, e7, e8, e9, e10, e11, e12, e13⟩
    exact ⟨e1, e2, e3, e4, e5, e6, e7, ⟨e8, e9, e10, e11⟩, e12, e13⟩
end Go.Proofs.YtjipffbnndbchaaGreatDoor
