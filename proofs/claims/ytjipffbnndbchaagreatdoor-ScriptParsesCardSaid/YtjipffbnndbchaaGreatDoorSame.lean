/- The walks of same: needle.Same, slices.Equal of picks, script.same. -/
import Derived.Test.YtjipffbnndbchaaGreatDoorLibW
import Derived.Test.YtjipffbnndbchaaGreatDoorScrD
import Derived.IntWalk
namespace Go.Proofs.YtjipffbnndbchaaGreatDoor
open Go.RowKit
set_option maxRecDepth 100000

def toB (n : Int) : UInt8 := UInt8.ofNat n.toNat
theorem toB_nat {n : Int} (h : InK .u8 n) : ((toB n).toNat : Int) = n := by
  simp only [InK] at h
  simp only [toB, UInt8.toNat_ofNat']
  omega
theorem Elems.toU8 {w : World} {A : Nat → Prop} : ∀ {xs : List Int} {cs : List Value}, Elems (Kd.int .u8) w A xs cs → Elems Kd.u8 w A (xs.map toB) cs ∧ ∀ x ∈ xs, InK .u8 x
  | [], _, h => ⟨h, by simp⟩
  | x :: xs, _, ⟨c, r, e, hc, hr⟩ => by
    obtain ⟨rfl, hin⟩ := hc
    obtain ⟨h1, h2⟩ := Elems.toU8 hr
    refine ⟨⟨_, r, e, ?_, h1⟩, by simpa using ⟨hin, h2⟩⟩
    rw [Kd.u8_K, toB_nat hin]
theorem Row.toU8 {w : World} {A : Nat → Prop} {a : Option Addr} {cap : Nat} {xs : List Int} (h : Row (Kd.int .u8) w A a cap xs) : Row Kd.u8 w A a cap (xs.map toB) ∧ ∀ x ∈ xs, InK .u8 x := by
  cases xs with
  | nil => exact ⟨Row.empty h.2.2.1 h.2.1, by simp⟩
  | cons x xs =>
    obtain ⟨b, off, rfl, _, _⟩ := h.some_of (by simp)
    obtain ⟨h1, h2, h3, cs, h4, h5⟩ := h.2.2.2 _ rfl (by simp)
    obtain ⟨k1, k2⟩ := Elems.toU8 h4
    refine ⟨⟨by simpa using h.1, h.2.1, h.2.2.1, fun ad e _ => ?_⟩, k2⟩
    cases e
    exact ⟨h1, h2, h3, cs, k1, h5⟩
theorem toB_eq : ∀ {xs ys : List Int}, (∀ x ∈ xs, InK .u8 x) → (∀ y ∈ ys, InK .u8 y) → (xs.map toB == ys.map toB) = decide (xs = ys) := by
  intro xs ys h1 h2
  rw [Bool.eq_iff_iff, beq_iff_eq, decide_eq_true_iff]
  refine ⟨fun h => ?_, fun h => by rw [h]⟩
  have key : ∀ {l : List Int}, (∀ x ∈ l, InK .u8 x) → (l.map toB).map (fun b => (b.toNat : Int)) = l := by
    intro l hl
    rw [List.map_map]
    conv => rhs; rw [← List.map_id l]
    exact List.map_congr_left fun x hx => toB_nat (hl x hx)
  rw [← key h1, ← key h2, h]
theorem intsEqual_calls {w : World} {A B : Nat → Prop} {a b : Option Addr} {c d : Nat} {xs ys : List Int} (h : Row (Kd.int .u8) w A a c xs) (k : Row (Kd.int .u8) w B b d ys) :
    Calls Tryz.prog 90 #[.slice a xs.length c, .slice b ys.length d] w fun e w' => e = .returned (.bool (decide (xs = ys))) ∧ w = w' := by
  obtain ⟨h1, h2⟩ := h.toU8
  obtain ⟨k1, k2⟩ := k.toU8
  have := bytesEqual_calls h1 k1
  rw [toB_eq h2 k2] at this
  simpa using this

abbrev nVal (k c : Int) (g : Bool) (a : Option Addr) (n cap : Nat) : Value := .agg #[.int .u64 k, .int .u32 c, .bool g, .slice a n cap]
set_option maxHeartbeats 1000000 in
theorem needleSame_calls (k1 k2 c1 c2 : Int) (g1 g2 : Bool) (a1 a2 : Option Addr) (cap1 cap2 : Nat) (xs ys : List Int) (w : World) (h1 : Row (Kd.int .u8) w (fun _ => True) a1 cap1 xs) (h2 : Row (Kd.int .u8) w (fun _ => True) a2 cap2 ys) :
    Calls Tryz.prog 66 #[nVal k1 c1 g1 a1 xs.length cap1, nVal k2 c2 g2 a2 ys.length cap2] w fun e w' => e = .returned (.bool ((k1 == k2) && ((c1 == c2) && ((g1 == g2) && decide (xs = ys))))) ∧ Ext w w' := by
  have H1 := Lib.hid h1
  have H2 := Lib.hid h2
  clear h1 h2
  have HE := Lib.hid (Ext.alloc (Ext.alloc (Ext.rfl_ w) (.cells #[.int .u64 k1, .int .u32 c1, .bool g1, .slice a1 xs.length cap1] 31)) (.cells #[.int .u64 k2, .int .u32 c2, .bool g2, .slice a2 ys.length cap2] 31))
  obtain ⟨z1, hz1⟩ : ∃ z, z = (k1 == k2) := ⟨_, rfl⟩
  obtain ⟨z2, hz2⟩ : ∃ z, z = (c1 == c2) := ⟨_, rfl⟩
  obtain ⟨z3, hz3⟩ : ∃ z, z = (g1 == g2) := ⟨_, rfl⟩
  obtain ⟨z4, hz4⟩ : ∃ z, z = decide (xs = ys) := ⟨_, rfl⟩
  have HZ4 := Lib.hid hz4
  rw [← hz1, ← hz2, ← hz3, ← hz4]
  clear hz4
  have q1 := hz1.symm
  have q2 := hz2.symm
  have q3 := hz3.symm
  clear hz1 hz2 hz3
  cases z1 <;> cases z2 <;> cases z3
  all_goals go_enter Tryz.func66, Tryz.ntmps66
  all_goals go_wp2_with (go_at_call 90; go_must (with_reducible refine (intsEqual_calls (H1.out.below HE.out) (H2.out.below HE.out)).mono ?_); rintro e w2 ⟨rfl, rfl⟩)
  all_goals go_ret
  all_goals exact ⟨ret_bool (by first | rfl | (simp; done) | (rw [HZ4.out]; rfl) | (rw [HZ4.out]; simp; done)), HE.out⟩

deriving instance DecidableEq for Pk
deriving instance DecidableEq for Ac
theorem pick_at {w : World} {A : Nat → Prop} {a : Option Addr} {cap : Nat} {ps : List Pk} (h : Row Kd.pick w A a cap ps) (m : Nat) (hm : m < ps.length) :
    ∃ b off, a = some ⟨b, off, none⟩ ∧ w.cell? ⟨b, off + m * 2, none⟩ = some (.int .i64 ps[m].keep) ∧ w.cell? ⟨b, off + m * 2 + 1, none⟩ = some (.int .u8 ps[m].turn) := by
  obtain ⟨b, off, rfl, _, _⟩ := h.some_of (by omega)
  obtain ⟨cs, hk, hc⟩ := h.at_ m hm
  obtain ⟨_, _, rfl, ⟨rfl, _⟩, ⟨rfl, _⟩⟩ := hk
  exact ⟨b, off, rfl, hc 0 _ rfl, hc 1 _ rfl⟩
set_option maxHeartbeats 1000000 in
theorem peq_calls (a1 a2 : Option Addr) (cap1 cap2 : Nat) (ps qs : List Pk) (w : World) (h1 : Row Kd.pick w (fun _ => True) a1 cap1 ps) (h2 : Row Kd.pick w (fun _ => True) a2 cap2 qs) :
    Calls Tryz.prog 67 #[.slice a1 ps.length cap1, .slice a2 qs.length cap2] w fun e w' => e = .returned (.bool (decide (ps = qs))) ∧ Ext w w' := by
  have H1 := Lib.hid h1
  have H2 := Lib.hid h2
  clear h1 h2
  by_cases hl : ps.length = qs.length
  · have hmx : ps.length ≤ 9223372036854775807 := Nat.le_trans H1.out.1 H1.out.2.1
    have hmx2 : (ps.length : Int) ≤ 9223372036854775807 := by omega
    have HL := Lib.hid hl
    have hl2 : ((ps.length : Int) != qs.length) = false := by simp [hl]
    clear hl
    go_enter Tryz.func67, Tryz.ntmps67
    go_wp2_with fail
    go_loopw [13] (fun iv wr => ∃ m : Nat, m ≤ ps.length ∧ iv = .int .i64 m ∧ Ext w wr ∧ ps.take m = qs.take m) (fun iv _ => ps.length - (intOf iv).toNat)
    case atStart => exact ⟨0, by omega, rfl, Ext.rfl_ _, rfl⟩
    case round =>
      obtain ⟨m, hm, rfl, he, ht⟩ := hrel
      have HT := Lib.hid ht
      have HE := Lib.hid he
      clear he ht
      by_cases hlt : m < ps.length
      · have hlt2 : m < qs.length := by have := HL.out; omega
        obtain ⟨b1, o1, rfl, hc1, hc2⟩ := pick_at (H1.out.below HE.out) m hlt
        obtain ⟨b2, o2, rfl, hd1, hd2⟩ := pick_at (H2.out.below HE.out) m hlt2
        have b0 : (0 : Int) ≤ (m : Int) := by omega
        have b1' : (m : Int) < (ps.length : Int) := by omega
        have b2' : (m : Int) < (qs.length : Int) := by omega
        by_cases hq : ps[m] = qs[m]
        · have HQ := Lib.hid hq
          rw [hq] at hc1 hc2
          clear hq
          go_wp2_with fail
          go_quiet (fail)
          go_wp2_with fail
          go_roundw
          case rel =>
            refine ⟨m + 1, by omega, (by first | go_num | (rw [IntWalk.wrap64_in _ (by omega)]; go_num)), HE.out.drewN _, ?_⟩
            rw [List.take_add_one, List.take_add_one, HT.out, List.getElem?_eq_getElem hlt, List.getElem?_eq_getElem hlt2, HQ.out]
          case measure =>
            first | (simp [intOf]; omega; done) | (rw [IntWalk.wrap64_in _ (by omega)]; simp [intOf]; omega)
        · have hne : decide (ps = qs) = false := by
            rw [decide_eq_false_iff_not]
            intro e
            subst e
            exact hq rfl
          have hcmp : ((ps[m].keep == qs[m].keep) && (ps[m].turn == qs[m].turn)) = false := by
            rw [Bool.and_eq_false_iff, beq_eq_false_iff_ne, beq_eq_false_iff_ne]
            by_cases h1 : ps[m].keep = qs[m].keep
            · refine .inr fun h2 => hq ?_
              cases h3 : ps[m]
              cases h4 : qs[m]
              simp_all
            · exact .inl h1
          have HN := Lib.hid hne
          clear hne hq
          generalize ps[m].keep = p1 at *
          generalize ps[m].turn = p2 at *
          generalize qs[m].keep = p3 at *
          generalize qs[m].turn = p4 at *
          by_cases hk : p1 = p3
          · subst hk
            have ht : (p2 == p4) = false := by simpa using hcmp
            clear hcmp
            go_wp2_with fail
            go_quiet (fail)
            go_wp2_with fail
            go_ret
            exact ⟨ret_bool HN.out.symm, HE.out.drewN _⟩
          · have ht : (p1 == p3) = false := by rw [beq_eq_false_iff_ne]; exact hk
            clear hcmp hk
            go_wp2_with fail
            go_quiet (fail)
            go_wp2_with fail
            go_ret
            exact ⟨ret_bool HN.out.symm, HE.out.drewN _⟩
      · have hml : m = ps.length := by omega
        have he : decide (ps = qs) = true := by
          rw [decide_eq_true_iff]
          have := HT.out
          rw [hml, List.take_length, HL.out, List.take_length] at this
          exact this
        have HN := Lib.hid he
        clear he
        go_wp2_with fail
        go_ret
        exact ⟨ret_bool HN.out.symm, HE.out⟩
  · have hl2 : ((ps.length : Int) != qs.length) = true := by rw [bne_iff_ne]; omega
    have hne : decide (ps = qs) = false := by rw [decide_eq_false_iff_not]; intro e; exact hl (by rw [e])
    rw [hne]
    go_enter Tryz.func67, Tryz.ntmps67
    go_wp2_with fail
    go_ret
    exact ⟨rfl, Ext.rfl_ _⟩
end Go.Proofs.YtjipffbnndbchaaGreatDoor
