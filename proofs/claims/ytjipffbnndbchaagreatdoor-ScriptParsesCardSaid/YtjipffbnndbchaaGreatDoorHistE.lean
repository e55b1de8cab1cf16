/- The walk of hist.Linear. -/
import Derived.Test.YtjipffbnndbchaaGreatDoorHistD
namespace Go.Proofs.YtjipffbnndbchaaGreatDoor
open Go.RowKit
set_option maxRecDepth 100000

def hSome (c : HCall) : Bool := decide (2 ≤ hTold c.op c.bg c.en c.cd)
def hLinear (l : List HCall) : Bool :=
  if l.any hSome then
    (hMay 1 4 l).any (fun p => hChosen l p (-1) || (hMay 4 5 l).any (fun d => hChosen l p d))
  else true
def hIdx : List HCall → Nat → Int
  | [], _ => -1
  | c :: r, i => if hSome c then (i : Int) else hIdx r (i + 1)
theorem hIdx_iff : ∀ (l : List HCall) (i : Nat), 0 ≤ hIdx l i ↔ l.any hSome = true
  | [], _ => by simp [hIdx]
  | c :: r, i => by
    have := hIdx_iff r (i + 1)
    simp only [hIdx, List.any_cons, Bool.or_eq_true, ← this]
    split <;> simp [*]
theorem hIdx_ge (l : List HCall) (i : Nat) : decide (0 ≤ hIdx l i) = l.any hSome := by
  rw [Bool.eq_iff_iff, decide_eq_true_iff]; exact hIdx_iff l i
theorem int_at {w : World} {A : Nat → Prop} {a : Option Addr} {cap : Nat} {l : List Int} (h : Row (Kd.int .i64) w A a cap l) (i : Nat) (hi : i < l.length) :
    ∃ b off, a = some ⟨b, off, none⟩ ∧ b < w.heap.size ∧ w.cell? ⟨b, off + i, none⟩ = some (.int .i64 l[i]) := by
  obtain ⟨b, off, rfl, hb, _⟩ := h.some_of (by omega)
  obtain ⟨c, hk, hc⟩ := h.at_ i hi
  simp at hk
  obtain ⟨rfl, _⟩ := hk
  refine ⟨b, off, rfl, hb, ?_⟩
  have := hc 0 _ rfl
  simpa [Kd.int, Kd.scalar] using this
theorem hIdx_bd : ∀ (l : List HCall) (i : Nat), -1 ≤ hIdx l i ∧ hIdx l i < i + l.length
  | [], i => by simp [hIdx]; omega
  | c :: r, i => by
    have := hIdx_bd r (i + 1)
    simp only [hIdx, List.length_cons]
    split <;> omega
theorem hMayGo_mem (op told : Int) : ∀ (l : List HCall) (i : Nat) (x : Int), x ∈ hMayGo op told l i → ∃ n : Nat, x = n ∧ n < i + l.length
  | [], _, _, h => by simp [hMayGo] at h
  | c :: r, i, x, h => by
    simp only [hMayGo] at h
    split at h
    · rcases List.mem_cons.1 h with rfl | h
      · exact ⟨i, rfl, by simp⟩
      · obtain ⟨n, e, hn⟩ := hMayGo_mem op told r (i + 1) x h
        exact ⟨n, e, by simp; omega⟩
    · obtain ⟨n, e, hn⟩ := hMayGo_mem op told r (i + 1) x h
      exact ⟨n, e, by simp; omega⟩
theorem hMay_at (op told : Int) (l : List HCall) (k : Nat) (h : k < (hMay op told l).length) : ∃ n : Nat, (hMay op told l)[k] = n ∧ n < l.length := by
  have := hMayGo_mem op told l 0 _ (List.getElem_mem h)
  simpa using this

set_option maxHeartbeats 400000 in
theorem linear1_calls (x : HCall) (a : Option Addr) (c : Nat) (b : Option Addr) (d : Nat) (w : World) :
    Calls Tryz.prog 52 #[.agg (hCallVal x a c b d).toArray] w fun e w' => e = .returned (.bool (hSome x)) ∧ Ext w w' := by
  obtain ⟨op, ck, data, bg, en, cd, got⟩ := x
  go_enter Tryz.func52, Tryz.ntmps52
  go_wp2_with (go_at_call 53; with_reducible refine (told_calls _ _ _ _ _ _ _ _).mono ?_; rintro e w' ⟨rfl, hb⟩; have HB := Lib.hid hb; clear hb)
  all_goals go_light
  all_goals go_ret
  all_goals exact ⟨ret_bool rfl, (Ext.alloc (Ext.rfl_ _) _).trans HB.out⟩

set_option maxHeartbeats 1000000 in
theorem index1_calls (l : List HCall) (a : Option Addr) (cap : Nat) (A : Nat → Prop) (w : World) (hl : Row kHCall w A a cap l) (hlen : l.length ≤ 1000000) :
    Calls Tryz.prog 80 #[.slice a l.length cap, .func (.func 52) #[] #[]] w fun e w' => e = .returned (.int .i64 (hIdx l 0)) ∧ Ext w w' := by
  go_enter Tryz.func80, Tryz.ntmps80
  go_wp2
  go_loopw [8] (fun i wr => ∃ k : Nat, k ≤ l.length ∧ i = .int .i64 k ∧ Ext w wr ∧ hIdx (l.drop k) k = hIdx l 0) (fun i _ => l.length - (intOf i).toNat)
  case atStart => exact ⟨0, Nat.zero_le _, rfl, Ext.rfl_ _, rfl⟩
  case round =>
    obtain ⟨k, hk, rfl, hB, hgo⟩ := hrel
    have HG := Lib.hid hgo
    have HB := Lib.hid hB
    have hl' := hl.below hB
    clear hgo hB hl
    by_cases hlt : k < l.length
    · obtain ⟨b, off, rfl, _, _⟩ := hl'.some_of (by omega)
      obtain ⟨a3, c3, a4, c4, hr3, hd3, hd4, e0, e1, e2, e3, e4, e5, e6⟩ := hcall_at hl' k hlt
      have HDROP := Lib.hid (List.drop_eq_getElem_cons hlt)
      generalize hy : l[k] = y at *
      clear hy hl' hr3 hd3 hd4
      by_cases hs : hSome y = true
      · have HS := Lib.hid (show ∀ W, Calls Tryz.prog 52 #[.agg (hCallVal y a3 c3 a4 c4).toArray] W fun e w' => e = .returned (.bool true) ∧ Ext W w' from fun W => by have := linear1_calls y a3 c3 a4 c4 W; rwa [hs] at this)
        go_wp2_with (go_at_call 52; go_must (refine (HS.out _).mono ?_); rintro e w2 ⟨rfl, hb⟩; have HB2 := Lib.hid hb; clear hb)
        go_ret
        refine ⟨ret_int ?_, HB.out.trans HB2.out⟩
        rw [← HG.out, HDROP.out]
        simp [hIdx, hs]
      · have hs' : hSome y = false := by simpa using hs
        have HS := Lib.hid (show ∀ W, Calls Tryz.prog 52 #[.agg (hCallVal y a3 c3 a4 c4).toArray] W fun e w' => e = .returned (.bool false) ∧ Ext W w' from fun W => by have := linear1_calls y a3 c3 a4 c4 W; rwa [hs'] at this)
        go_wp2_with (go_at_call 52; go_must (refine (HS.out _).mono ?_); rintro e w2 ⟨rfl, hb⟩; have HB2 := Lib.hid hb; clear hb)
        go_roundw
        case rel =>
          refine ⟨k + 1, by omega, by go_num, HB.out.trans HB2.out, ?_⟩
          rw [← HG.out, HDROP.out]
          simp [hIdx, hs']
        case measure => simp [intOf]; omega
    · have hkl : k = l.length := by omega
      have HK := Lib.hid hkl
      clear hkl
      go_wp2
      go_ret
      refine ⟨ret_int ?_, HB.out⟩
      rw [← HG.out, HK.out, List.drop_length]
      simp [hIdx]

set_option maxHeartbeats 1000000 in
theorem contains1_calls (l : List HCall) (a : Option Addr) (cap : Nat) (A : Nat → Prop) (w : World) (hl : Row kHCall w A a cap l) (hlen : l.length ≤ 1000000) :
    Calls Tryz.prog 51 #[.slice a l.length cap, .func (.func 52) #[] #[]] w fun e w' => e = .returned (.bool (l.any hSome)) ∧ Ext w w' := by
  have HI := Lib.hid (hIdx_ge l 0)
  go_enter Tryz.func51, Tryz.ntmps51
  go_wp2_with (go_at_call 80; go_must (refine (index1_calls l a cap A w hl hlen).mono ?_); rintro e w2 ⟨rfl, hb⟩; have HB2 := Lib.hid hb; clear hb)
  all_goals go_ret
  all_goals exact ⟨ret_bool HI.out, HB2.out⟩

set_option maxHeartbeats 4000000 in
theorem hLinear_calls (l : List HCall) (a : Option Addr) (cap : Nat) (A : Nat → Prop) (w : World) (hl : Row kHCall w A a cap l) (hlen : l.length ≤ 1000000) :
    Calls Tryz.prog 32 #[.slice a l.length cap] w fun e w' => e = .returned (.bool (hLinear l)) ∧ Ext w w' := by
  by_cases hany : l.any hSome = true
  case neg =>
    have hany' : l.any hSome = false := by simpa using hany
    have HC := Lib.hid (show Calls Tryz.prog 51 #[.slice a l.length cap, .func (.func 52) #[] #[]] w fun e w' => e = .returned (.bool false) ∧ Ext w w' from by have := contains1_calls l a cap A w hl hlen; rwa [hany'] at this)
    have HL := Lib.hid (show hLinear l = true by simp [hLinear, hany'])
    clear hany hany'
    go_enter Tryz.func32, Tryz.ntmps32
    go_wp2_with (go_at_call 51; go_must (refine HC.out.mono ?_); rintro e w2 ⟨rfl, hb⟩; have HB2 := Lib.hid hb; clear hb)
    all_goals go_ret
    all_goals exact ⟨ret_bool HL.out.symm, HB2.out⟩
  have HC := Lib.hid (show Calls Tryz.prog 51 #[.slice a l.length cap, .func (.func 52) #[] #[]] w fun e w' => e = .returned (.bool true) ∧ Ext w w' from by have := contains1_calls l a cap A w hl hlen; rwa [hany] at this)
  have HL := Lib.hid (show (hMay 1 4 l).any (fun p => hChosen l p (-1) || (hMay 4 5 l).any (fun d => hChosen l p d)) = hLinear l by simp [hLinear, hany])
  clear hany
  obtain ⟨ps, hps⟩ : ∃ ps, ps = hMay 1 4 l := ⟨_, rfl⟩
  have HPS := Lib.hid hps
  have hplen : ps.length ≤ 1000000 := by rw [hps]; exact Nat.le_trans (hMay_len _ _ _) hlen
  have HPM := Lib.hid (show ∀ k (h : k < ps.length), ∃ n : Nat, ps[k] = n ∧ n < l.length from by subst hps; exact fun k h => hMay_at _ _ _ _ h)
  have HM1 := Lib.hid (show ∀ W, Ext w W → Calls Tryz.prog 54 #[.slice a l.length cap, .int .i64 1, .int .i64 4] W fun e w' => ∃ v, e = .returned v ∧ Own (Kd.int .i64) 3 w' W.heap.size (fun _ => False) v ps ∧ Ext W w' from by subst hps; exact fun W e => may_calls l a cap 1 4 A W (hl.below e) hlen)
  have HL1 := HL.out
  rw [← hps] at HL1
  have HL2 := Lib.hid HL1
  clear hps HL1 HL
  go_enter Tryz.func32, Tryz.ntmps32
  go_wp2_with (first | (go_at_call 51; go_must (refine HC.out.mono ?_); rintro e w2 ⟨rfl, hb⟩; have HB2 := Lib.hid hb; clear hb) | (go_at_call 54; go_must (refine (HM1.out _ HB2.out).mono ?_); rintro e w3 ⟨v, rfl, hown, hb⟩; obtain ⟨ap, cp, rfl, hrow⟩ := hown.row; have HB3 := Lib.hid hb; have HROW := Lib.hid hrow; clear hb hown hrow))
  go_loopw [13] (fun i wr => ∃ k : Nat, k ≤ ps.length ∧ i = .int .i64 k ∧ Ext w3 wr ∧ (ps.drop k).any (fun p => hChosen l p (-1) || (hMay 4 5 l).any (fun d => hChosen l p d)) = hLinear l) (fun i _ => ps.length - (intOf i).toNat)
  case atStart => exact ⟨0, Nat.zero_le _, rfl, Ext.rfl_ _, HL2.out⟩
  case round =>
    obtain ⟨k, hk, rfl, hB, hgo⟩ := hrel
    have HG := Lib.hid hgo
    have HB := Lib.hid (HB2.out.trans (HB3.out.trans hB))
    have hrow := HROW.out.below hB
    clear hgo
    have HBO := Lib.hid hB
    clear hB
    by_cases hlt : k < ps.length
    · obtain ⟨bp, op, rfl, hbp, ep⟩ := int_at hrow k hlt
      have HDROP := Lib.hid (List.drop_eq_getElem_cons hlt)
      obtain ⟨p, hp, hpl⟩ := HPM.out k hlt
      rw [hp] at ep
      have HP := Lib.hid hp
      clear hp hrow
      have HCN := Lib.hid (fun W (e : Ext w W) => chosen_none l a cap p (-1) A W (hl.below e) hlen hpl (by omega))
      obtain ⟨rst, hrst⟩ : ∃ r, r = (ps.drop (k + 1)).any (fun p => hChosen l p (-1) || (hMay 4 5 l).any (fun d => hChosen l p d)) := ⟨_, rfl⟩
      have HSTEP := Lib.hid (show ((hChosen l p (-1) || (hMay 4 5 l).any (fun d => hChosen l p d)) || rst) = hLinear l from by rw [← HG.out, HDROP.out, List.any_cons, HP.out, hrst])
      have HRST := Lib.hid hrst
      clear hrst
      by_cases hc : hChosen l p (-1) = true
      · rw [hc] at HCN
        go_wp2_with (go_at_call 55; go_must (refine (HCN.out _ HB.out).mono ?_); rintro e w4 ⟨rfl, hb⟩; have HB4 := Lib.hid hb; clear hb)
        go_ret
        refine ⟨ret_bool ?_, HB.out.trans HB4.out⟩
        rw [← HSTEP.out, hc]; simp
      · have hc' : hChosen l p (-1) = false := by simpa using hc
        rw [hc'] at HCN
        clear hc
        obtain ⟨qs, hqs⟩ : ∃ qs, qs = hMay 4 5 l := ⟨_, rfl⟩
        have hqlen : qs.length ≤ 1000000 := by rw [hqs]; exact Nat.le_trans (hMay_len _ _ _) hlen
        have HQM := Lib.hid (show ∀ k (h : k < qs.length), ∃ n : Nat, qs[k] = n ∧ n < l.length from by subst hqs; exact fun k h => hMay_at _ _ _ _ h)
        have HM2 := Lib.hid (show ∀ W, Ext w W → Calls Tryz.prog 54 #[.slice a l.length cap, .int .i64 4, .int .i64 5] W fun e w' => ∃ v, e = .returned v ∧ Own (Kd.int .i64) 3 w' W.heap.size (fun _ => False) v qs ∧ Ext W w' from by subst hqs; exact fun W e => may_calls l a cap 4 5 A W (hl.below e) hlen)
        have HST2 := HSTEP.out
        rw [hc', Bool.false_or, ← hqs] at HST2
        have HST := Lib.hid HST2
        have HQS := Lib.hid hqs
        clear HST2 hqs HSTEP
        go_wp2_with (first | (go_at_call 55; go_must (refine (HCN.out _ HB.out).mono ?_); rintro e w4 ⟨rfl, hb⟩; have HB4 := Lib.hid hb; clear hb) | (go_at_call 54; go_must (refine (HM2.out _ (HB.out.trans HB4.out)).mono ?_); rintro e w5 ⟨v, rfl, hown, hb⟩; obtain ⟨aq, cq, rfl, hrow⟩ := hown.row; have HB5 := Lib.hid hb; have HROWQ := Lib.hid hrow; clear hb hown hrow))
        go_loopw [23] (fun i wi => ∃ j : Nat, j ≤ qs.length ∧ i = .int .i64 j ∧ Ext w5 wi ∧ ((qs.drop j).any (fun d => hChosen l p d) || rst) = hLinear l) (fun i _ => qs.length - (intOf i).toNat)
        case atStart => exact ⟨0, Nat.zero_le _, rfl, Ext.rfl_ _, HST.out⟩
        case round =>
          obtain ⟨j, hj, rfl, hB, hgo⟩ := hrel
          have HGI := Lib.hid hgo
          have HBI := Lib.hid (HB.out.trans (HB4.out.trans (HB5.out.trans hB)))
          have hrow := HROWQ.out.below hB
          have HBI2 := Lib.hid (HBO.out.trans (HB4.out.trans (HB5.out.trans hB)))
          have HBI3 := Lib.hid hB
          clear hgo hB
          by_cases hlt2 : j < qs.length
          · obtain ⟨bq, oq, rfl, hbq, eq⟩ := int_at hrow j hlt2
            have HDROQ := Lib.hid (List.drop_eq_getElem_cons hlt2)
            obtain ⟨q, hq, hql⟩ := HQM.out j hlt2
            rw [hq] at eq
            have HQ := Lib.hid hq
            clear hq hrow
            have HCD := Lib.hid (fun W (e : Ext w W) => chosen_del l a cap p q A W (hl.below e) hlen hpl hql)
            by_cases hd : hChosen l p q = true
            · rw [hd] at HCD
              go_wp2_with (go_at_call 55; go_must (refine (HCD.out _ HBI.out).mono ?_); rintro e w6 ⟨rfl, hb⟩; have HB6 := Lib.hid hb; clear hb)
              go_ret
              refine ⟨ret_bool ?_, HBI.out.trans HB6.out⟩
              rw [← HGI.out, HDROQ.out, List.any_cons, HQ.out, hd]; simp
            · have hd' : hChosen l p q = false := by simpa using hd
              rw [hd'] at HCD
              go_wp2_with (go_at_call 55; go_must (refine (HCD.out _ HBI.out).mono ?_); rintro e w6 ⟨rfl, hb⟩; have HB6 := Lib.hid hb; clear hb)
              go_roundw
              case rel =>
                refine ⟨j + 1, by omega, by go_num, HBI3.out.trans HB6.out, ?_⟩
                rw [← HGI.out, HDROQ.out, List.any_cons, HQ.out, hd']; simp
              case measure => simp [intOf]; omega
          · have hjl : j = qs.length := by omega
            have HJ := Lib.hid hjl
            clear hjl
            go_wp2
            go_roundw
            case rel =>
              refine ⟨k + 1, by omega, by go_num, HBI2.out, ?_⟩
              rw [← HGI.out, HJ.out, List.drop_length, HRST.out]; simp
            case measure => simp [intOf]; omega
    · have hkl : k = ps.length := by omega
      have HK := Lib.hid hkl
      clear hkl
      go_wp2
      go_ret
      refine ⟨ret_bool ?_, HB.out⟩
      rw [← HG.out, HK.out, List.drop_length]; rfl
end Go.Proofs.YtjipffbnndbchaaGreatDoor
