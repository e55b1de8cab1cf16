/- The walk of hist.chosen: with a deletion. -/
import Derived.Test.YtjipffbnndbchaaGreatDoorHistC
import Derived.Deep.RegionHeld3
import Derived.Deep.RegionWith
namespace Go.Proofs.YtjipffbnndbchaaGreatDoor
open Go.RowKit
set_option maxRecDepth 100000

set_option maxHeartbeats 8000000 in
theorem chosen_del (l : List HCall) (a : Option Addr) (cap : Nat) (p q : Nat) (A : Nat → Prop) (w : World) (hl : Row kHCall w A a cap l) (hlen : l.length ≤ 1000000) (hp : p < l.length) (hq : q < l.length) :
    Calls Tryz.prog 55 #[.slice a l.length cap, .int .i64 p, .int .i64 q] w fun e w' => e = .returned (.bool (hChosen l p q)) ∧ Ext w w' := by
  obtain ⟨b, off, rfl, hbw0, _⟩ := hl.some_of (by omega)
  obtain ⟨a1, c1, a2, c2, hr, hd1, hd2, g0, g1, g2, g3, g4, g5, g6⟩ := hcall_at hl p hp
  generalize hx : l[p] = x at *
  have HX := Lib.hid hx
  clear hx
  obtain ⟨b1, d1, b2, d2, hs, hs1, hs2, h0, h1, h2, h3, h4, h5, h6⟩ := hcall_at hl q hq
  generalize hz : l[q] = z at *
  have HZ := Lib.hid hz
  clear hz
  have hq1 : (0 : Int) ≤ q := by omega
  have hq2 : (q : Int) < l.length := by omega
  have hp1 : (0 : Int) ≤ p := by omega
  have hp2 : (p : Int) < l.length := by omega
  by_cases hck : z.ck = x.ck
  case neg =>
    have hck' : (z.ck != x.ck) = true := by simpa using hck
    have HCH := Lib.hid (show hChosen l p q = false by
      unfold hChosen
      rw [if_pos (by omega), show l.getD (p : Int).toNat hNone = x from by rw [← HX.out]; simp [List.getD, hp], show l.getD (q : Int).toNat hNone = z from by rw [← HZ.out]; simp [List.getD, hq]]
      simp [hck])
    clear hck
    go_enter Tryz.func55, Tryz.ntmps55
    go_wp2_with (go_at_call 82; with_reducible refine (of_calls x a1 c1 a2 c2 _).mono ?_; rintro e w1 ⟨rfl, hb⟩; obtain ⟨hc1, hf1, hs1⟩ := bcell hb; have HB1 := Lib.hid hb; clear hb; have y1 : w1.cell? ⟨b, off + q * 7 + 1, none⟩ = some (.int .u32 z.ck) := (hc1 b (off + q * 7 + 1) hbw0).trans h1; have y2 : w1.cell? ⟨b, off + p * 7 + 1, none⟩ = some (.int .u32 x.ck) := (hc1 b (off + p * 7 + 1) hbw0).trans g1; have y3 : b < w1.heap.size := hs1 _ hbw0)
    go_quiet (fail)
    all_goals go_wp2
    all_goals go_ret
    all_goals exact ⟨ret_bool HCH.out.symm, ((HB1.out.alloc _).alloc _).drewN _⟩
  have hck' : (z.ck != x.ck) = false := by simpa using hck
  have HSTART := Lib.hid (show hChosenGo p q x l 0 (hOf x).1 (hOf x).2 (hOf z).1 (hOf z).2 = hChosen l p q by
    unfold hChosen
    rw [if_pos (by omega), show l.getD (p : Int).toNat hNone = x from by rw [← HX.out]; simp [List.getD, hp], show l.getD (q : Int).toNat hNone = z from by rw [← HZ.out]; simp [List.getD, hq]]
    simp [hck])
  clear hck
  go_enter Tryz.func55, Tryz.ntmps55
  go_wp2_with (first | (go_at_call 82; with_reducible refine (of_calls x a1 c1 a2 c2 _).mono ?_; rintro e w1 ⟨rfl, hb⟩; obtain ⟨hc1, hf1, hs1⟩ := bcell hb; have HB1 := Lib.hid hb; clear hb; have y1 : w1.cell? ⟨b, off + q * 7 + 1, none⟩ = some (.int .u32 z.ck) := (hc1 b (off + q * 7 + 1) hbw0).trans h1; have y2 : w1.cell? ⟨b, off + p * 7 + 1, none⟩ = some (.int .u32 x.ck) := (hc1 b (off + p * 7 + 1) hbw0).trans g1; have y3 : b < w1.heap.size := hs1 _ hbw0; have z0 := (hc1 b (off + q * 7) hbw0).trans h0; have z1 := (hc1 b (off + q * 7 + 1) hbw0).trans h1; have z2 := (hc1 b (off + q * 7 + 2) hbw0).trans h2; have z3 := (hc1 b (off + q * 7 + 3) hbw0).trans h3; have z4 := (hc1 b (off + q * 7 + 4) hbw0).trans h4; have z5 := (hc1 b (off + q * 7 + 5) hbw0).trans h5; have z6 := (hc1 b (off + q * 7 + 6) hbw0).trans h6))
  go_quiet (fail)
  clear hc1 hf1 hs1
  go_wp2_with (go_at_call 82; with_reducible refine (of_calls z b1 d1 b2 d2 _).mono ?_; rintro e w5 ⟨rfl, hb⟩; obtain ⟨hc5, hf5, hs5⟩ := bcell hb; have HB5 := Lib.hid hb; clear hb)
  clear hc5 hf5 hs5 y1 y2 y3 z0 z1 z2 z3 z4 z5 z6
  go_loopw [38] (fun i wr => ∃ (k : Nat) (pl ph ql qh : Int), k ≤ l.length ∧ i = .int .i64 k ∧ Sp wr w1.heap.size pl ph ql qh ∧ Below w1.heap.size w1 wr ∧ hChosenGo p q x (l.drop k) k pl ph ql qh = hChosen l p q) (fun i _ => l.length - (intOf i).toNat)
  case atStart => exact ⟨0, _, _, _, _, Nat.zero_le _, rfl, (((show Sp _ w1.heap.size _ _ _ _ from ⟨alloc2_fst _ _ _, alloc2_snd _ _ _⟩ : Sp ((w1.alloc _).alloc _) w1.heap.size _ _ _ _).ext ((Ext.rfl_ _).drewN _ |>.trans HB5.out)).low1 _).high1 _, (((((Below.refl _ _).alloc (Nat.le_refl _) _).alloc (by simp) _).trans (((Ext.rfl_ _).drewN _ |>.trans HB5.out).mono (by simp; omega))).setCell (by simp) _).setCell (by simp) _, HSTART.out⟩
  case round =>
    obtain ⟨k, pl, ph, ql, qh, hk, rfl, hS, hB, hgo⟩ := hrel
    have HS := Lib.hid hS
    have HG := Lib.hid hgo
    have HB := Lib.hid hB
    have hl' : Row kHCall wr A (some ⟨b, off, none⟩) cap l := hl.keep (fun k _ hk => (hB.block k (Nat.lt_of_lt_of_le hk HB1.out.size)).trans (HB1.out.block k hk)) (Nat.le_trans HB1.out.size hB.size)
    have hPw := hS.lt
    have hbw : b < wr.heap.size := Nat.lt_of_lt_of_le (Nat.lt_of_lt_of_le ‹b < w.heap.size› HB1.out.size) hB.size
    have hbw1 : b < wr.heap.size + 1 := by omega
    clear hS hgo hB
    by_cases hlt : k < l.length
    · obtain ⟨a3, c3, a4, c4, hr3, hd3, hd4, e0, e1, e2, e3, e4, e5, e6⟩ := hcall_at hl' k hlt
      obtain ⟨a5, c5, a6, c6, hr5, hd5, hd6, k0, k1, k2, k3, k4, k5, k6⟩ := hcall_at hl' p hp
      rw [HX.out] at k0 k1 k2 k3 k4 k5 k6 hd5 hd6 hr5
      have HDROP := Lib.hid (List.drop_eq_getElem_cons hlt)
      generalize hy : l[k] = y at *
      have HY := Lib.hid hy
      obtain ⟨T, hT⟩ : ∃ T, T = hTold y.op y.bg y.en y.cd := ⟨_, rfl⟩
      have HT := Lib.hid hT
      have told : ∀ W, Calls Tryz.prog 53 #[.agg #[.int .i64 y.op, .int .u32 y.ck, .slice a3 y.data.length c3, .int .i64 y.bg, .int .i64 y.en, .int .i64 y.cd, .slice a4 y.got.length c4]] W fun e w' => e = .returned (.int .i64 T) ∧ Ext W w' := by
        intro W; rw [hT]; exact told_calls _ _ _ _ _ _ _ _
      have TOLD := Lib.hid told
      clear told hT hy hl' hl g0 g1 g2 g3 g4 g5 g6
      by_cases t1 : T = 1
      · subst t1
        clear hd3 hd4 hd5 hd6
        go_wp2_with (first | (go_at_call 53; with_reducible refine (TOLD.out _).mono ?_; rintro e w2 ⟨rfl, hb⟩; obtain ⟨hc2, hf2, hs2⟩ := bcell hb; have hz2 : wr.heap.size < w2.heap.size := hs2 _ (by simp); have HB2 := Lib.hid hb; clear hb) | (go_at_call 83; go_must (refine (from_calls _ pl ph _ _ ((HS.out.ext ((Ext.alloc (Ext.rfl_ _) _).trans HB2.out)).1)).mono ?_); rintro e w3 ⟨rfl, hb⟩; have HB3 := Lib.hid hb; clear hb))
        go_roundw
        case rel =>
          have E := (Ext.alloc (Ext.rfl_ wr) _).trans HB2.out
          rw [HB3.out]
          refine ⟨k + 1, _, _, _, _, by omega, by go_num, (HS.out.ext E).low0 _, (HB.out.trans (E.mono (by omega))).setCell (Nat.le_refl _) _, ?_⟩
          rw [← HG.out, HDROP.out]
          simp [hChosenGo, ← HT.out]
        case measure => simp [intOf]; omega
      by_cases t2 : T = 2
      · subst t2
        have HFIT := Lib.hid (show ∀ W, Ext wr W → Calls Tryz.prog 84 #[.agg (hCallVal y a3 c3 a4 c4).toArray, .agg (hCallVal x a5 c5 a6 c6).toArray] W fun e w' => e = .returned (.bool (hFits y x)) ∧ Ext W w' from fun W e => fits_calls y x a3 c3 a4 c4 a5 c5 a6 c6 A A W (hd4.below e) (hd5.below e))
        clear hd3 hd4 hd5 hd6
        go_wp2_with (first | (go_at_call 53; with_reducible refine (TOLD.out _).mono ?_; rintro e w2 ⟨rfl, hb⟩; obtain ⟨hc2, hf2, hs2⟩ := bcell hb; have hz2 : wr.heap.size < w2.heap.size := hs2 _ (by simp); have HB2 := Lib.hid hb; clear hb))
        by_cases hfit : hFits y x = true
        · rw [hfit] at HFIT
          go_region_with (go_at_call 84; go_must (refine (HFIT.out _ (((Ext.alloc (Ext.rfl_ wr) _).trans HB2.out).drew)).mono ?_); rintro e w3 ⟨rfl, hb⟩; obtain ⟨hc3, hf3, hs3⟩ := bcell (HB2.out.drew.trans hb); have HB3 := Lib.hid hb; clear hb)
          all_goals (have E := Lib.hid ((((Ext.alloc (Ext.rfl_ wr) _).trans HB2.out).drew).trans HB3.out))
          all_goals go_wp2_with (first | (go_at_call 85; go_must (refine (till_calls _ pl ph _ _ (HS.out.ext E.out).1).mono ?_); rintro e w4 ⟨rfl, rfl⟩) | (go_at_call 83; go_must (refine (from_calls _ ql qh _ _ ((HS.out.ext E.out).high0 _).2).mono ?_); rintro e w5 ⟨rfl, rfl⟩))
          all_goals go_roundw
          all_goals try case rel =>
            refine ⟨k + 1, _, _, _, _, by omega, by go_num, ((HS.out.ext E.out).high0 _).low1 _, ((HB.out.trans (E.out.mono (by omega))).setCell (Nat.le_refl _) _).setCell (by simp) _, ?_⟩
            rw [← HG.out, HDROP.out]
            simp [hChosenGo, ← HT.out, hfit]
          all_goals try case measure => simp [intOf]; omega
        · have hfit' : hFits y x = false := by simpa using hfit
          rw [hfit'] at HFIT
          go_region_with (go_at_call 84; go_must (refine (HFIT.out _ (((Ext.alloc (Ext.rfl_ wr) _).trans HB2.out).drew)).mono ?_); rintro e w3 ⟨rfl, hb⟩; obtain ⟨hc3, hf3, hs3⟩ := bcell (HB2.out.drew.trans hb); have HB3 := Lib.hid hb; clear hb)
          all_goals go_wp2
          all_goals go_ret
          all_goals refine ⟨ret_bool (b := hChosen l p q) ?_, HB1.out.trans (HB.out.trans ((((Ext.alloc (Ext.rfl_ wr) _).trans HB2.out).drew.trans HB3.out).mono (by omega)))⟩
          all_goals (rw [← HG.out, HDROP.out]; simp [hChosenGo, ← HT.out, hfit'])
      by_cases t3 : T = 3
      · subst t3
        clear hd3 hd4 hd5 hd6
        go_wp2_with (first | (go_at_call 53; with_reducible refine (TOLD.out _).mono ?_; rintro e w2 ⟨rfl, hb⟩; obtain ⟨hc2, hf2, hs2⟩ := bcell hb; have hz2 : wr.heap.size < w2.heap.size := hs2 _ (by simp); have HB2 := Lib.hid hb; clear hb) | (go_at_call 85; go_must (refine (till_calls _ ql qh _ _ ((HS.out.ext ((Ext.alloc (Ext.rfl_ _) _).trans HB2.out)).2)).mono ?_); rintro e w3 ⟨rfl, hb⟩; have HB3 := Lib.hid hb; clear hb))
        go_roundw
        case rel =>
          have E := (Ext.alloc (Ext.rfl_ wr) _).trans HB2.out
          rw [HB3.out]
          refine ⟨k + 1, _, _, _, _, by omega, by go_num, (HS.out.ext E).high1 _, (HB.out.trans (E.mono (by omega))).setCell (by simp) _, ?_⟩
          rw [← HG.out, HDROP.out]
          simp [hChosenGo, ← HT.out]
        case measure => simp [intOf]; omega
      · clear hd3 hd4 hd5 hd6
        have t1' : (T == 1) = false := by simpa using t1
        have t2' : (T == 2) = false := by simpa using t2
        have t3' : (T == 3) = false := by simpa using t3
        go_wp2_with (first | (go_at_call 53; with_reducible refine (TOLD.out _).mono ?_; rintro e w2 ⟨rfl, hb⟩; obtain ⟨hc2, hf2, hs2⟩ := bcell hb; have hz2 : wr.heap.size < w2.heap.size := hs2 _ (by simp); have HB2 := Lib.hid hb; clear hb))
        all_goals first
          | (go_roundw
             case rel =>
               refine ⟨k + 1, _, _, _, _, by omega, by go_num, HS.out.ext ((Ext.alloc (Ext.rfl_ wr) _).trans HB2.out), HB.out.trans (((Ext.alloc (Ext.rfl_ wr) _).trans HB2.out).mono (by omega)), ?_⟩
               rw [← HG.out, HDROP.out]
               simp only [hChosenGo, ← HT.out]
               grind
             case measure => simp [intOf]; omega)
          | (go_ret
             refine ⟨ret_bool (b := hChosen l p q) ?_, HB1.out.trans (HB.out.trans (((Ext.alloc (Ext.rfl_ wr) _).trans HB2.out).mono (by omega)))⟩
             rw [← HG.out, HDROP.out]
             simp only [hChosenGo, ← HT.out]
             grind)
    · obtain ⟨q0, q1, q2, q3⟩ := HS.out.cells
      have hkl : k = l.length := by omega
      have HK := Lib.hid hkl
      clear hkl
      go_wp2
      all_goals go_light
      all_goals go_ret
      all_goals refine ⟨ret_bool (b := hChosen l p _) ?_, HB1.out.trans (HB.out.mono (by first | exact HB1.out.size | omega))⟩
      all_goals (rw [← HG.out, HK.out, List.drop_length]; simp only [hChosenGo]; grind)
end Go.Proofs.YtjipffbnndbchaaGreatDoor
