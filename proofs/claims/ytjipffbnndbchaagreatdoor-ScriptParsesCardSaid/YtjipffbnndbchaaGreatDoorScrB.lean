/- The walks of script: the reader's data. -/
import Derived.Test.YtjipffbnndbchaaGreatDoorScrA
import Derived.IntWalk
namespace Go.Proofs.YtjipffbnndbchaaGreatDoor
open Go.RowKit
set_option maxRecDepth 100000

theorem info5 : (Tryz.prog.info? 5).map (fun i => (i.zero, i.size, i.bytes)) = some (some (.int .u8 0), 1, 1) := by kernel_rfl

theorem idx_calls (a : UInt8) (w : World) : Calls Tryz.prog 88 #[.string ⟨#[48, 49, 50, 51, 52, 53, 54, 55, 56, 57, 97, 98, 99, 100, 101, 102]⟩, .int .u8 (a.toNat : Int)] w fun e w' => e = .returned (.int .i64 (hexOf a)) ∧ w' = w := by
  refine (Tryz.strings_IndexByte _ _ w).mono ?_
  rintro e w' ⟨rfl, rfl⟩
  refine ⟨?_, rfl⟩
  simp [hexOf]

theorem hexByte_bits (h l : Int) (h0 : 0 ≤ h) (h1 : h ≤ 15) (l0 : 0 ≤ l) (l1 : l ≤ 15) : bits BinOp.or IntKind.i64 (h * 16) l % 256 = ((hexByte h l).toNat : Int) := by
  obtain ⟨a, rfl⟩ := Int.eq_ofNat_of_zero_le h0
  obtain ⟨b, rfl⟩ := Int.eq_ofNat_of_zero_le l0
  have : ∀ a b : Fin 16, bits BinOp.or IntKind.i64 (((a.val : Nat) : Int) * 16) ((b.val : Nat) : Int) % 256 = ((hexByte ((a.val : Nat) : Int) ((b.val : Nat) : Int)).toNat : Int) := by decide
  exact this ⟨a, by omega⟩ ⟨b, by omega⟩

set_option maxHeartbeats 2000000 in
theorem rdata_loop (r : Nat) (x : ByteArray) (t : List ByteArray) (bd : Bool) (hx : x.size ≤ 1000000) (h45 : x ≠ bs [45]) (hev : x.size % 2 = 0) (w : World)
    (hN : Calls Tryz.prog 59 #[.pointer (some ⟨r, 0, none⟩)] w fun e w' => e = .returned (.string x) ∧ Rdr w' r t bd ∧ Only (· = r) w w') :
    Calls Tryz.prog 63 #[.pointer (some ⟨r, 0, none⟩)] w fun e w' => ∃ (v : Value) (out : List Int), e = .returned v ∧ Own (Kd.int .u8) 5 w' w.heap.size (fun _ => False) v out ∧ ((hexPairs x.data.toList).2 = false → out = (hexPairs x.data.toList).1.map fun b => (b.toNat : Int)) ∧ Rdr w' r t (bd || (hexPairs x.data.toList).2) ∧ Only (· = r) w w' := by
  obtain ⟨i0, hi, hz, hsz, hbt⟩ := info_parts info5
  have HN := Lib.hid hN
  have h1 : (x.toList == [45]) = false := by rw [beq_eq_false_iff_ne, ByteArray.toList_eq]; intro e; exact h45 (by rw [← bs_of x, e])
  have h2 : ((x.size : Int) % 2 == 1) = false := by rw [beq_eq_false_iff_ne]; omega
  clear hN h45
  go_enter Tryz.func63, Tryz.ntmps63
  go_wp2_with (first | (go_at_call 59; go_must (with_reducible refine HN.out.mono ?_); rintro e w' ⟨rfl, hr, ho⟩; have HR := Lib.hid hr; have HO1 := Lib.hid ho; clear ho))
  have hrl := hr.lt
  obtain ⟨ra, rcap, hrb, hrow⟩ := hr
  have HRB := Lib.hid hrb
  have HROW := Lib.hid hrow
  clear hrb hrow
  go_loopw [4, 5] (fun v i wr => ∃ (m : Nat) (out : List Int) (bj : Bool), m ≤ x.size ∧ i = .int .i64 m ∧ m = 2 * out.length ∧ Own (Kd.int .u8) 5 wr w'.heap.size (fun _ => False) v out ∧ wr.heap[r]? = some (.cells #[.slice ra t.length rcap, .bool (bd || bj)] 123 (0, 0)) ∧ Only (· = r) w' wr ∧ (bj || (hexPairs (x.data.toList.drop m)).2) = (hexPairs x.data.toList).2 ∧ (bj = false → out ++ ((hexPairs (x.data.toList.drop m)).1.map fun b => (b.toNat : Int)) = (hexPairs x.data.toList).1.map fun b => (b.toNat : Int))) (fun _ i _ => x.size - (intOf i).toNat)
  case atStart => exact ⟨0, [], false, by omega, rfl, rfl, Own.nil_ _ _ _, by simpa using HRB.out, Only.refl _ _, by simp, by simp⟩
  case round =>
    obtain ⟨m, out, bj, hm, rfl, hlen, hown, hrd, honly, hb2, hb1⟩ := hrel
    have HO := Lib.hid hown
    have HRD := Lib.hid hrd
    have HON := Lib.hid honly
    have HB2 := Lib.hid hb2
    have HB1 := Lib.hid hb1
    have HLEN := Lib.hid hlen
    obtain ⟨n1, n2⟩ : wr.cell? ⟨r, 1, none⟩ = some (.bool (bd || bj)) ∧ wr.frozen? ⟨r, 1, none⟩ = false := by simp [World.cell?, World.frozen?, hrd]
    have hrw : r < wr.heap.size := Nat.lt_of_lt_of_le hrl honly.size
    clear hown hrd honly hb2 hb1
    by_cases hlt : m < x.size
    · have hlt2 : m + 1 < x.size := by omega
      clear hlen hev
      have HDROP := Lib.hid (show x.data.toList.drop m = x[m] :: x[m + 1] :: x.data.toList.drop (m + 2) from by
        rw [List.drop_eq_getElem_cons (by simpa using hlt), List.drop_eq_getElem_cons (by simpa using hlt2)]
        simp [ByteArray.getElem_eq_getElem_data])
      have hA := hexOf_bd x[m]
      have hB := hexOf_bd x[m + 1]
      have s1 : IntKind.i64.wrap ((m : Int) + 1) = (m : Int) + 1 := IntWalk.i64_in _ (by omega)
      have s2 : (0 : Int) ≤ (m : Int) + 1 := by omega
      have s3 : ((m : Int) + 1).toNat = m + 1 := by omega
      have s4 : (m : Int) + 1 < x.size := by omega
      go_wp2_with fail
      go_quiet ((go_at_call 88; exact Calls.quiet_of_same (idx_calls _ _)))
      clear s1
      generalize hhh : hexOf x[m] = hh at *
      generalize hll : hexOf x[m + 1] = ll at *
      have HHH := Lib.hid hhh
      have HLL := Lib.hid hll
      clear hhh hll
      obtain ⟨bb, hbb⟩ : ∃ bb, bb = (bd || bj) := ⟨_, rfl⟩
      rw [← hbb] at n1 HRD
      have HBB := Lib.hid hbb
      clear hbb
      have hV : InK .u8 (bits BinOp.or IntKind.i64 (hh * 16) ll % 256) := by simp only [InK]; omega
      have hol : out.length ≤ 1000000 := by have := HLEN.out; omega
      have HOS := Lib.hid (show ∀ b : Bool, Own (Kd.int .u8) 5 ((wr.drewN nq).setCell ⟨r, 1, none⟩ (.bool b)) w'.heap.size (fun _ => False) u4 out from fun b => HO.out.keep (fun k hk hlt => by
        rcases hk with hk | hk
        · exact hk.elim
        · exact set_other (by have := (HO.out.block_lt hk.symm).2; omega) _) (by simp [World.setCell]))
      have HRS := Lib.hid (show ∀ b : Bool, ((wr.drewN nq).setCell ⟨r, 1, none⟩ (.bool b)).heap[r]? = some (.cells #[.slice ra t.length rcap, .bool b] 123 (0, 0)) from fun b => by simpa using set_cells (w := wr.drewN nq) (show (wr.drewN nq).heap[r]? = _ from HRD.out) 1 (.bool b))
      have HOOS := Lib.hid (show ∀ b : Bool, Only (· = r) w' ((wr.drewN nq).setCell ⟨r, 1, none⟩ (.bool b)) from fun b => (HON.out.drewN nq).set (p := ⟨r, 1, none⟩) (fun _ => rfl) _)
      have hws : w'.heap.size ≤ wr.heap.size := HON.out.size
      have HFIN := Lib.hid (show ∀ (b : Bool) (v' : Value) (w5 : World), b = ((bd || bj) || (decide (hh < 0) || decide (ll < 0))) → Own (Kd.int .u8) 5 w5 w'.heap.size (fun _ => False) v' (out ++ [bits BinOp.or IntKind.i64 (hh * 16) ll % 256]) → Below w'.heap.size ((wr.drewN nq).setCell ⟨r, 1, none⟩ (.bool b)) w5 → (∀ k, k < ((wr.drewN nq).setCell ⟨r, 1, none⟩ (.bool b)).heap.size → some k ≠ u4.ownBlock → w5.heap[k]? = ((wr.drewN nq).setCell ⟨r, 1, none⟩ (.bool b)).heap[k]?) →
          ∃ (m' : Nat) (out' : List Int) (bj' : Bool), m' ≤ x.size ∧ Value.int .i64 ((m : Int) + 2) = .int .i64 m' ∧ m' = 2 * out'.length ∧ Own (Kd.int .u8) 5 w5 w'.heap.size (fun _ => False) v' out' ∧ w5.heap[r]? = some (.cells #[.slice ra t.length rcap, .bool (bd || bj')] 123 (0, 0)) ∧ Only (· = r) w' w5 ∧ (bj' || (hexPairs (x.data.toList.drop m')).2) = (hexPairs x.data.toList).2 ∧ (bj' = false → out' ++ ((hexPairs (x.data.toList.drop m')).1.map fun b => (b.toNat : Int)) = (hexPairs x.data.toList).1.map fun b => (b.toNat : Int)) from by
        intro b v' w5 hb hown hB5 hG
        subst hb
        refine ⟨m + 2, _, (bj || (decide (hh < 0) || decide (ll < 0))), by omega, by go_num, by have := HLEN.out; simp; omega, hown, ?_, ?_, ?_, ?_⟩
        · have h0 := HRS.out ((bd || bj) || (decide (hh < 0) || decide (ll < 0)))
          refine (hB5.block r hrl).trans (h0.trans ?_)
          rw [Bool.or_assoc]
        · exact ⟨hB5.os.trans (HOOS.out true).os, hB5.tape.trans (HOOS.out true).tape, hB5.output.trans (HOOS.out true).output, Nat.le_trans (HOOS.out true).size (by simpa [World.setCell] using hB5.size), fun k hk hs => (hB5.block k hk).trans ((HOOS.out _).block k hk hs)⟩
        · rw [← HB2.out, HDROP.out]
          simp only [hexPairs, Bool.or_assoc]
          rw [HHH.out, HLL.out]
        · intro hb0
          simp only [Bool.or_eq_false_iff, decide_eq_false_iff_not] at hb0
          rw [← HB1.out hb0.1, HDROP.out]
          simp only [hexPairs, HHH.out, HLL.out, List.map_cons, List.append_assoc, List.cons_append, List.nil_append, List.append_cancel_left_eq, List.cons.injEq, and_true]
          exact hexByte_bits _ _ (by omega) (by omega) (by omega) (by omega))
      cases bb
      · go_wp2_with (at_builtin; go_must (refine wpList_push1 _ #[.int .u8 (bits BinOp.or IntKind.i64 (hh * 16) ll % 256)] 5 (Kd.int .u8) 5 23 i0 (.int .u8 0) 1 w'.heap.size (fun _ => False) u4 out (bits BinOp.or IntKind.i64 (hh * 16) ll % 256) rfl (.tmp 49) (.tmp 55) rfl Tryz.underlying23 hi hz hsz hbt rfl (by decide) rfl rfl (by first | rfl | simp [World.setCell]) ?_ ?_ ?_ ?_ ?_ ?_); go_must (exact HOS.out _); exact ⟨rfl, hV⟩; (unfold maxLen; omega); omega; (simp [World.setCell]; omega); intro v' w5 hown' hB' hG'; have HO5 := Lib.hid hown'; have HB5 := Lib.hid hB'; have HG5 := Lib.hid hG'; clear hown' hB' hG')
        all_goals exact ⟨HFIN.out _ v' w5 (by rw [← HBB.out]; first | rfl | (simp; done) | (simp_all; done) | grind) HO5.out HB5.out HG5.out, by simp [intOf]; omega⟩
      · go_wp2_with (at_builtin; go_must (refine wpList_push1 _ #[.int .u8 (bits BinOp.or IntKind.i64 (hh * 16) ll % 256)] 5 (Kd.int .u8) 5 23 i0 (.int .u8 0) 1 w'.heap.size (fun _ => False) u4 out (bits BinOp.or IntKind.i64 (hh * 16) ll % 256) rfl (.tmp 49) (.tmp 55) rfl Tryz.underlying23 hi hz hsz hbt rfl (by decide) rfl rfl (by first | rfl | simp [World.setCell]) ?_ ?_ ?_ ?_ ?_ ?_); go_must (exact HOS.out _); exact ⟨rfl, hV⟩; (unfold maxLen; omega); omega; (simp [World.setCell]; omega); intro v' w5 hown' hB' hG'; have HO5 := Lib.hid hown'; have HB5 := Lib.hid hB'; have HG5 := Lib.hid hG'; clear hown' hB' hG')
        all_goals exact ⟨HFIN.out _ v' w5 (by rw [← HBB.out]; first | rfl | (simp; done) | (simp_all; done) | grind) HO5.out HB5.out HG5.out, by simp [intOf]; omega⟩
    · have hml : m = x.size := by omega
      have HM := Lib.hid hml
      clear hml
      go_wp2
      go_ret
      have hd : x.data.toList.drop m = [] := by rw [HM.out]; simp
      have e2 := HB2.out
      have e1 := HB1.out
      rw [hd] at e1 e2
      simp only [hexPairs, Bool.or_false, List.map_nil, List.append_nil] at e1 e2
      exact ⟨_, out, rfl, HO.out.lower HO1.out.size, fun h => e1 (by rw [e2]; exact h), ⟨ra, rcap, by rw [← e2]; exact HRD.out, HROW.out.keep (fun k hne hlt => HON.out.block k hlt (by omega)) HON.out.size⟩, HO1.out.trans HON.out⟩

set_option maxHeartbeats 1000000 in
theorem rdata_calls (r : Nat) (ws : List ByteArray) (bad : Bool) (w : World) (h : Rdr w r ws bad) (hs : Small ws) :
    Calls Tryz.prog 63 #[.pointer (some ⟨r, 0, none⟩)] w fun e w' => ∃ (v : Value) (out : List Int), e = .returned v ∧ Own (Kd.int .u8) 5 w' w.heap.size (fun _ => False) v out ∧ ((dataOf (ws.headD (bs []))).2 = false → out = (dataOf (ws.headD (bs []))).1.map fun b => (b.toNat : Int)) ∧ Rdr w' r ws.tail ((bad || ws.isEmpty) || (dataOf (ws.headD (bs []))).2) ∧ Only (· = r) w w' := by
  have hN := next_calls r ws bad w h
  have hsz := hs.head
  generalize ws.headD (bs []) = x at *
  generalize (bad || ws.isEmpty) = bd at *
  by_cases h45 : x = bs [45]
  · have e : dataOf x = ([], false) := by rw [dataOf, if_pos h45]
    rw [e]
    have h1 : (x.toList == [45]) = true := by rw [beq_iff_eq, ByteArray.toList_eq, h45]; rfl
    have HN := Lib.hid hN
    clear hN h hs h45 e
    go_enter Tryz.func63, Tryz.ntmps63
    go_wp2_with (first | (go_at_call 59; go_must (with_reducible refine HN.out.mono ?_); rintro e w1 ⟨rfl, hr, ho⟩; have HR1 := Lib.hid hr; have HO1 := Lib.hid ho; obtain ⟨n1, n2⟩ := hr.cells; clear hr ho))
    go_ret
    exact ⟨_, [], rfl, Own.nil_ _ _ _, fun _ => rfl, by simpa using HR1.out, HO1.out⟩
  · by_cases hev : x.size % 2 = 1
    · have e : dataOf x = ([], true) := by rw [dataOf, if_neg h45, if_pos hev]
      rw [e]
      have h1 : (x.toList == [45]) = false := by rw [beq_eq_false_iff_ne, ByteArray.toList_eq]; intro e; exact h45 (by rw [← bs_of x, e])
      have h2 : ((x.size : Int) % 2 == 1) = true := by rw [beq_iff_eq]; omega
      have HN := Lib.hid hN
      clear hN h hs h45 hev e
      go_enter Tryz.func63, Tryz.ntmps63
      go_wp2_with (first | (go_at_call 59; go_must (with_reducible refine HN.out.mono ?_); rintro e w1 ⟨rfl, hr, ho⟩; have HR1 := Lib.hid hr; have HO1 := Lib.hid ho; obtain ⟨n1, n2⟩ := hr.cells; clear hr ho))
      go_ret
      exact ⟨_, [], rfl, Own.nil_ _ _ _, fun h => by simp at h, by simpa using HR1.out.setBad true, HO1.out.set (p := ⟨r, 1, none⟩) (fun _ => rfl) _⟩
    · have e : dataOf x = hexPairs x.data.toList := by rw [dataOf, if_neg h45, if_neg hev]
      rw [e]
      exact rdata_loop r x ws.tail bd hsz h45 (by omega) w hN
end Go.Proofs.YtjipffbnndbchaaGreatDoor
