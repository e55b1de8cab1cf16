/- The walk of hist.chosen. -/
import Derived.Test.YtjipffbnndbchaaGreatDoorHistB
import Derived.Deep.RegionHeld3
import Derived.Deep.RegionWith
namespace Go.Proofs.YtjipffbnndbchaaGreatDoor
open Go.RowKit
set_option maxRecDepth 100000

/-- The two spans' blocks. -/
def Sp (w : World) (P : Nat) (pl ph ql qh : Int) : Prop :=
  w.heap[P]? = some (.cells #[.int .i64 pl, .int .i64 ph] 143 (0, 0)) ∧ w.heap[P + 1]? = some (.cells #[.int .i64 ql, .int .i64 qh] 143 (0, 0))
theorem Sp.lt {w : World} {P : Nat} {pl ph ql qh : Int} (h : Sp w P pl ph ql qh) : P + 1 < w.heap.size := (Array.getElem?_eq_some_iff.1 h.2).1
theorem Sp.cells {w : World} {P : Nat} {pl ph ql qh : Int} (h : Sp w P pl ph ql qh) : w.cell? ⟨P, 0, none⟩ = some (.int .i64 pl) ∧ w.cell? ⟨P, 1, none⟩ = some (.int .i64 ph) ∧ w.cell? ⟨P + 1, 0, none⟩ = some (.int .i64 ql) ∧ w.cell? ⟨P + 1, 1, none⟩ = some (.int .i64 qh) := by
  obtain ⟨h1, h2⟩ := h
  simp [World.cell?, h1, h2]
theorem Sp.ext {w w' : World} {P : Nat} {pl ph ql qh : Int} (h : Sp w P pl ph ql qh) (e : Ext w w') : Sp w' P pl ph ql qh :=
  ⟨(e.block _ (by have := h.lt; omega)).trans h.1, (e.block _ h.lt).trans h.2⟩
theorem Sp.low0 {w : World} {P : Nat} {pl ph ql qh : Int} (h : Sp w P pl ph ql qh) (x : Int) : Sp (w.setCell ⟨P, 0, none⟩ (.int .i64 x)) P x ph ql qh :=
  ⟨set_span0 h.1, (Below.heap_setCell w ⟨P, 0, none⟩ _ (P + 1) (by show P + 1 ≠ P; omega)).trans h.2⟩
theorem Sp.high0 {w : World} {P : Nat} {pl ph ql qh : Int} (h : Sp w P pl ph ql qh) (x : Int) : Sp (w.setCell ⟨P, 1, none⟩ (.int .i64 x)) P pl x ql qh :=
  ⟨set_span1 h.1, (Below.heap_setCell w ⟨P, 1, none⟩ _ (P + 1) (by show P + 1 ≠ P; omega)).trans h.2⟩
theorem Sp.low1 {w : World} {P : Nat} {pl ph ql qh : Int} (h : Sp w P pl ph ql qh) (x : Int) : Sp (w.setCell ⟨P + 1, 0, none⟩ (.int .i64 x)) P pl ph x qh :=
  ⟨(Below.heap_setCell w ⟨P + 1, 0, none⟩ _ P (by show P ≠ P + 1; omega)).trans h.1, set_span0 h.2⟩
theorem Sp.high1 {w : World} {P : Nat} {pl ph ql qh : Int} (h : Sp w P pl ph ql qh) (x : Int) : Sp (w.setCell ⟨P + 1, 1, none⟩ (.int .i64 x)) P pl ph ql x :=
  ⟨(Below.heap_setCell w ⟨P + 1, 1, none⟩ _ P (by show P ≠ P + 1; omega)).trans h.1, set_span1 h.2⟩

set_option maxHeartbeats 4000000 in
theorem chosen_none (l : List HCall) (a : Option Addr) (cap : Nat) (p : Nat) (del : Int) (A : Nat → Prop) (w : World) (hl : Row kHCall w A a cap l) (hlen : l.length ≤ 1000000) (hp : p < l.length) (hdel : del < 0) :
    Calls Tryz.prog 55 #[.slice a l.length cap, .int .i64 p, .int .i64 del] w fun e w' => e = .returned (.bool (hChosen l p del)) ∧ Ext w w' := by
  obtain ⟨b, off, rfl, _, _⟩ := hl.some_of (by omega)
  obtain ⟨a1, c1, a2, c2, hr, hd1, hd2, g0, g1, g2, g3, g4, g5, g6⟩ := hcall_at hl p hp
  generalize hx : l[p] = x at *
  have HX := Lib.hid hx
  clear hx
  have HSTART := Lib.hid (show hChosenGo p del x l 0 (hOf x).1 (hOf x).2 0 9223372036854775807 = hChosen l p del by
    unfold hChosen
    rw [if_neg (by omega), show l.getD (p : Int).toNat hNone = x from by rw [← HX.out]; simp [List.getD, hp]])
  go_enter Tryz.func55, Tryz.ntmps55
  go_wp2_with (go_at_call 82; with_reducible refine (of_calls x a1 c1 a2 c2 _).mono ?_; rintro e w1 ⟨rfl, hb⟩; obtain ⟨hc1, hf1, hs1⟩ := bcell hb; have HB1 := Lib.hid hb; clear hb)
  clear hc1 hf1
  go_loopw [38] (fun i wr => ∃ (k : Nat) (pl ph ql qh : Int), k ≤ l.length ∧ i = .int .i64 k ∧ Sp wr w1.heap.size pl ph ql qh ∧ Below w1.heap.size w1 wr ∧ hChosenGo p del x (l.drop k) k pl ph ql qh = hChosen l p del) (fun i _ => l.length - (intOf i).toNat)
  case atStart => exact ⟨0, _, _, _, _, Nat.zero_le _, rfl, ⟨alloc2_fst _ _ _, alloc2_snd _ _ _⟩, ((Below.refl _ _).alloc (Nat.le_refl _) _).alloc (by simp) _, HSTART.out⟩
  case round =>
    obtain ⟨k, pl, ph, ql, qh, hk, rfl, hS, hB, hgo⟩ := hrel
    have HS := Lib.hid hS
    have HG := Lib.hid hgo
    have HB := Lib.hid hB
    have hl' : Row kHCall wr A (some ⟨b, off, none⟩) cap l := hl.keep (fun k _ hk => (hB.block k (Nat.lt_of_lt_of_le hk HB1.out.size)).trans (HB1.out.block k hk)) (Nat.le_trans HB1.out.size hB.size)
    have hPw := hS.lt
    have hbw : b < wr.heap.size := Nat.lt_of_lt_of_le (Nat.lt_of_lt_of_le ‹b < w.heap.size› HB1.out.size) hB.size
    have hbw1 : b < wr.heap.size + 1 := by omega
    clear hS hgo hB
    by_cases hlt : k < l.length
    · obtain ⟨a3, c3, a4, c4, hr3, hd3, hd4, e0, e1, e2, e3, e4, e5, e6⟩ := hcall_at hl' k hlt
      obtain ⟨a5, c5, a6, c6, hr5, hd5, hd6, k0, k1, k2, k3, k4, k5, k6⟩ := hcall_at hl' p hp
      rw [HX.out] at k0 k1 k2 k3 k4 k5 k6 hd5 hd6 hr5
      have HDROP := Lib.hid (List.drop_eq_getElem_cons hlt)
      generalize hy : l[k] = y at *
      have HY := Lib.hid hy
      obtain ⟨T, hT⟩ : ∃ T, T = hTold y.op y.bg y.en y.cd := ⟨_, rfl⟩
      have HT := Lib.hid hT
      have told : ∀ W, Calls Tryz.prog 53 #[.agg #[.int .i64 y.op, .int .u32 y.ck, .slice a3 y.data.length c3, .int .i64 y.bg, .int .i64 y.en, .int .i64 y.cd, .slice a4 y.got.length c4]] W fun e w' => e = .returned (.int .i64 T) ∧ Ext W w' := by
        intro W; rw [hT]; exact told_calls _ _ _ _ _ _ _ _
      have TOLD := Lib.hid told
      clear told hT hy hl' hl g0 g1 g2 g3 g4 g5 g6
      by_cases t1 : T = 1
      · subst t1
        clear hd3 hd4 hd5 hd6
        go_wp2_with (first | (go_at_call 53; with_reducible refine (TOLD.out _).mono ?_; rintro e w2 ⟨rfl, hb⟩; obtain ⟨hc2, hf2, hs2⟩ := bcell hb; have hz2 : wr.heap.size < w2.heap.size := hs2 _ (by simp); have HB2 := Lib.hid hb; clear hb) | (go_at_call 83; go_must (refine (from_calls _ pl ph _ _ ((HS.out.ext ((Ext.alloc (Ext.rfl_ _) _).trans HB2.out)).1)).mono ?_); rintro e w3 ⟨rfl, hb⟩; have HB3 := Lib.hid hb; clear hb))
        go_roundw
        case rel =>
          have E := (Ext.alloc (Ext.rfl_ wr) _).trans HB2.out
          rw [HB3.out]
          refine ⟨k + 1, _, _, _, _, by omega, by go_num, (HS.out.ext E).low0 _, (HB.out.trans (E.mono (by omega))).setCell (Nat.le_refl _) _, ?_⟩
          rw [← HG.out, HDROP.out]
          simp [hChosenGo, ← HT.out]
        case measure => simp [intOf]; omega
      by_cases t2 : T = 2
      · subst t2
        have HFIT := Lib.hid (show ∀ W, Ext wr W → Calls Tryz.prog 84 #[.agg (hCallVal y a3 c3 a4 c4).toArray, .agg (hCallVal x a5 c5 a6 c6).toArray] W fun e w' => e = .returned (.bool (hFits y x)) ∧ Ext W w' from fun W e => fits_calls y x a3 c3 a4 c4 a5 c5 a6 c6 A A W (hd4.below e) (hd5.below e))
        clear hd3 hd4 hd5 hd6
        go_wp2_with (first | (go_at_call 53; with_reducible refine (TOLD.out _).mono ?_; rintro e w2 ⟨rfl, hb⟩; obtain ⟨hc2, hf2, hs2⟩ := bcell hb; have hz2 : wr.heap.size < w2.heap.size := hs2 _ (by simp); have HB2 := Lib.hid hb; clear hb))
        by_cases hfit : hFits y x = true
        · rw [hfit] at HFIT
          go_region_with (go_at_call 84; go_must (refine (HFIT.out _ (((Ext.alloc (Ext.rfl_ wr) _).trans HB2.out).drew)).mono ?_); rintro e w3 ⟨rfl, hb⟩; obtain ⟨hc3, hf3, hs3⟩ := bcell (HB2.out.drew.trans hb); have HB3 := Lib.hid hb; clear hb)
          all_goals (have E := Lib.hid ((((Ext.alloc (Ext.rfl_ wr) _).trans HB2.out).drew).trans HB3.out))
          all_goals go_wp2_with (first | (go_at_call 85; go_must (refine (till_calls _ pl ph _ _ (HS.out.ext E.out).1).mono ?_); rintro e w4 ⟨rfl, rfl⟩) | (go_at_call 83; go_must (refine (from_calls _ ql qh _ _ ((HS.out.ext E.out).high0 _).2).mono ?_); rintro e w5 ⟨rfl, rfl⟩))
          all_goals go_roundw
          all_goals try case rel =>
            refine ⟨k + 1, _, _, _, _, by omega, by go_num, ((HS.out.ext E.out).high0 _).low1 _, ((HB.out.trans (E.out.mono (by omega))).setCell (Nat.le_refl _) _).setCell (by simp) _, ?_⟩
            rw [← HG.out, HDROP.out]
            simp [hChosenGo, ← HT.out, hfit]
          all_goals try case measure => simp [intOf]; omega
        · have hfit' : hFits y x = false := by simpa using hfit
          rw [hfit'] at HFIT
          go_region_with (go_at_call 84; go_must (refine (HFIT.out _ (((Ext.alloc (Ext.rfl_ wr) _).trans HB2.out).drew)).mono ?_); rintro e w3 ⟨rfl, hb⟩; obtain ⟨hc3, hf3, hs3⟩ := bcell (HB2.out.drew.trans hb); have HB3 := Lib.hid hb; clear hb)
          all_goals go_wp2
          all_goals go_ret
          all_goals refine ⟨ret_bool (b := hChosen l p del) ?_, HB1.out.trans (HB.out.trans ((((Ext.alloc (Ext.rfl_ wr) _).trans HB2.out).drew.trans HB3.out).mono (by omega)))⟩
          all_goals (rw [← HG.out, HDROP.out]; simp [hChosenGo, ← HT.out, hfit'])
      · clear hd3 hd4 hd5 hd6
        have t1' : (T == 1) = false := by simpa using t1
        have t2' : (T == 2) = false := by simpa using t2
        go_wp2_with (first | (go_at_call 53; with_reducible refine (TOLD.out _).mono ?_; rintro e w2 ⟨rfl, hb⟩; obtain ⟨hc2, hf2, hs2⟩ := bcell hb; have hz2 : wr.heap.size < w2.heap.size := hs2 _ (by simp); have HB2 := Lib.hid hb; clear hb))
        all_goals first
          | (go_roundw
             case rel =>
               refine ⟨k + 1, _, _, _, _, by omega, by go_num, HS.out.ext ((Ext.alloc (Ext.rfl_ wr) _).trans HB2.out), HB.out.trans (((Ext.alloc (Ext.rfl_ wr) _).trans HB2.out).mono (by omega)), ?_⟩
               rw [← HG.out, HDROP.out]
               simp only [hChosenGo, ← HT.out]
               grind
             case measure => simp [intOf]; omega)
          | (go_ret
             refine ⟨ret_bool (b := hChosen l p del) ?_, HB1.out.trans (HB.out.trans (((Ext.alloc (Ext.rfl_ wr) _).trans HB2.out).mono (by omega)))⟩
             rw [← HG.out, HDROP.out]
             simp only [hChosenGo, ← HT.out]
             grind)
    · obtain ⟨q0, q1, q2, q3⟩ := HS.out.cells
      have hkl : k = l.length := by omega
      have HK := Lib.hid hkl
      clear hkl
      go_wp2
      all_goals go_light
      all_goals go_ret
      all_goals refine ⟨ret_bool (b := hChosen l p _) ?_, HB1.out.trans (HB.out.mono (by first | exact HB1.out.size | omega))⟩
      all_goals (rw [← HG.out, HK.out, List.drop_length]; simp only [hChosenGo]; grind)
end Go.Proofs.YtjipffbnndbchaaGreatDoor
