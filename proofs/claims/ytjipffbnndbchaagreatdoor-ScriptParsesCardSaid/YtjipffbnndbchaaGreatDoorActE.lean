/- The walks of script: the act of words. Printed by gen_act.py. -/
import Derived.Test.YtjipffbnndbchaaGreatDoorScrD
namespace Go.Proofs.YtjipffbnndbchaaGreatDoor
open Go.RowKit
set_option maxRecDepth 100000

set_option maxHeartbeats 2000000 in
theorem act_9 {B : Nat} (a : Option Addr) (l : List ByteArray) (cap : Nat) (w : World) (hr : Row Kd.str w (fun _ => True) a cap l) (hs : Small l) (hG : Glob B w) (k : Int) (x : ByteArray) (b : Bool) (hx : l.headD (bs []) = x) (hb : (false || l.isEmpty) = b) (hk : k = Lib.idxOfS nameList x) (h1 : k = 9) (hll : l.length ≤ 2000000) :
    Calls Tryz.prog 37 #[.slice a l.length cap] w fun e w' => ActR w { kind := 9, a := (rNum (l.tail, b)).1, names := (rNum (rNum (l.tail, b)).2).1, files := (rPicks (rNum (rNum (l.tail, b)).2).2.1.length (rNum (rNum (l.tail, b)).2).2).1 } (rPicks (rNum (rNum (l.tail, b)).2).2.1.length (rNum (rNum (l.tail, b)).2).2).2 e w' := by
  have hi := next_calls _ _ _ _ (rdr_init hr)
  rw [hx, hb] at hi
  have HI := Lib.hid hi
  clear hi
  have HINIT := Lib.hid (fun wi b h1 h2 cs => RSt.init (wi := wi) (b := b) (a := a) (cap := cap) hG hs h1 h2 cs)
  clear hr hs hG hx hb
  subst h1
  have HK := Lib.hid hk
  clear hk
  go_enter Tryz.func37, Tryz.ntmps37
  go_wp2_with (first | (go_at_call 36; go_must (with_reducible refine (names_calls _).mono ?_); rintro e wn ⟨rfl, rfl⟩) | (go_at_call 59; go_must (with_reducible refine HI.out.mono ?_); rintro e wa ⟨rfl, hst, ho⟩; have HS := Lib.hid (HINIT.out wa _ hst ho); have hnb : wa.heap[w.heap.size + 1 + 1]? = some (.cells (nameList.map Value.string).toArray 9 (0, 0)) := (by have h9 := (ho.block _ (by first | (simp; done) | (simp; omega)) (by first | (simp; done) | (simp; omega))).trans (heap_alloc_new ((w.alloc (Obj.cells cs0 56)).alloc (Obj.cells #[Value.slice a l.length cap, Value.bool false] 123)) (Obj.cells (nameList.map Value.string).toArray 9)); simpa using h9); have HNB := Lib.hid hnb; clear hnb hst ho) | (go_at_call 58; go_must (with_reducible refine (index_calls _ _ HK.out _ _ HNB.out).mono ?_); rintro e wi ⟨rfl, rfl⟩) | (go_at_call 60; go_must (with_reducible refine (st_num (by first | with_reducible exact HST.out | with_reducible exact HS.out _)).mono ?_); rintro e wk ⟨rfl, hst⟩; have HST := Lib.hid hst; obtain ⟨c0, c1, c2, c3, c4, c5, c6, c7, c8, c9, c10, c11, c12, cf⟩ := act_cells hst.blk; obtain ⟨ra, rcap, bb, nn, hbb, hnn, r0, r1, rf⟩ := hst.reader; have HBB := Lib.hid hbb; have HNN := Lib.hid hnn; clear hst hbb hnn))
  have hst := (HST.out.setA 5 (.int .i64 (rNum (l.tail, b)).1)).setA 11 (.int .i64 (rNum (rNum (l.tail, b)).2).1)
  simp only [List.setIfInBounds_toArray, List.set_cons_succ, List.set_cons_zero] at hst
  have HST := Lib.hid hst
  have HCT := Lib.hid (Array.getElem?_eq_some_iff.1 hst.blk).1
  clear hst c0 c1 c2 c3 c4 c5 c6 c7 c8 c9 c10 c11 c12 cf r0 r1 rf
  obtain ⟨i0, hi0, hz0, hsz0, hbt0⟩ := info_parts infoPick
  go_loopw [] (fun wr => ∃ (fa : Option Addr) (fcap : Nat) (out : List Pk) (st : Rd), RSt B (w.heap.size + 1) wi.heap.size w wr st #[.int .i64 9, .int .i64 0, .int .i64 0, .int .i64 0, .int .i64 0, .int .i64 (rNum (l.tail, b)).1, .int .i64 0, .int .u64 0, .int .u32 0, .bool false, .slice none 0 0, .int .i64 (rNum (rNum (l.tail, b)).2).1, .slice fa out.length fcap] ∧ Own Kd.pick 108 wr (wi.heap.size + 1) (fun _ => False) (.slice fa out.length fcap) out ∧ out.length + st.1.length ≤ l.length ∧ out ++ (rPicks st.1.length st).1 = (rPicks (rNum (rNum (l.tail, b)).2).2.1.length (rNum (rNum (l.tail, b)).2).2).1 ∧ (rPicks st.1.length st).2 = (rPicks (rNum (rNum (l.tail, b)).2).2.1.length (rNum (rNum (l.tail, b)).2).2).2) (fun wr => lenOf (wr.cell? ⟨w.heap.size + 1, 0, none⟩))
  case atStart => exact ⟨none, 0, [], (rNum (rNum (l.tail, b)).2).2, HST.out, Own.nil_ _ _ _, by simp [rNum, Rd.on]; omega, by simp, rfl⟩
  case round =>
    obtain ⟨fa, fcap, out, st, hst, hown, h3, h1, h2⟩ := hrel
    have HLL := Lib.hid (show out.length + st.1.length ≤ 2000000 from by omega)
    have HL3 := Lib.hid h3
    clear h3
    have HOWN := Lib.hid hown
    have HR1 := Lib.hid h1
    have HR2 := Lib.hid h2
    clear hown h1 h2
    have HST := Lib.hid hst; obtain ⟨c0, c1, c2, c3, c4, c5, c6, c7, c8, c9, c10, c11, c12, cf⟩ := act_cells hst.blk; obtain ⟨ra, rcap, bb, nn, hbb, hnn, r0, r1, rf⟩ := hst.reader; have HBB := Lib.hid hbb; have HNN := Lib.hid hnn; clear hst hbb hnn
    by_cases hn : nn = 0
    · have hs0 : st.1.length = 0 := by have := HNN.out; omega
      have E1 := Lib.hid (show out = (rPicks (rNum (rNum (l.tail, b)).2).2.1.length (rNum (rNum (l.tail, b)).2).2).1 from by have := HR1.out; rw [hs0] at this; simpa [rPicks] using this)
      have E2 := Lib.hid (show st = (rPicks (rNum (rNum (l.tail, b)).2).2.1.length (rNum (rNum (l.tail, b)).2).2).2 from by have := HR2.out; rw [hs0] at this; simpa [rPicks] using this)
      have hlt := HST.out.lt
      have HQ2 := Lib.hid (show ∀ q, Value.ownBlock (.slice fa out.length fcap) = some q → q ≠ w.heap.size from fun q hq => by have := (HOWN.out.block_lt hq).2; omega)
      have HOWNF := Lib.hid (HOWN.out.lower (base' := w.heap.size) (by omega))
      have hn3 : ((nn : Int) == 0) = true := by subst hn; rfl
      subst hn
      clear hs0 hlt
      obtain ⟨e0, e1, e2, e3, e4, e5, e6, e7, e8, e9, e10, e11, e12, ef⟩ := act_cells HST.out.res
      cases bb
      · go_wp2_with fail
        go_region
        go_wp2
        refine bodyPost_ret (v := .tuple #[.agg #[.int .i64 9, .int .i64 0, .int .i64 0, .int .i64 0, .int .i64 0, .int .i64 (rNum (l.tail, b)).1, .int .i64 0, .int .u64 0, .int .u32 0, .bool false, .slice none 0 0, .int .i64 (rNum (rNum (l.tail, b)).2).1, .slice fa out.length fcap], .bool true]) (by simp [results, Tryz.results37, go_sem, *]) rfl ?_
        rw [← E1.out, ← E2.out]
        refine ⟨.agg #[.int .i64 9, .int .i64 0, .int .i64 0, .int .i64 0, .int .i64 0, .int .i64 (rNum (l.tail, b)).1, .int .i64 0, .int .u64 0, .int .u32 0, .bool false, .slice none 0 0, .int .i64 (rNum (rNum (l.tail, b)).2).1, .slice fa out.length fcap], { kind := 9, a := (rNum (l.tail, b)).1, names := (rNum (rNum (l.tail, b)).2).1, files := out }, ?_, ⟨_, _, rfl, Own.nil_ _ _ _, ?_⟩, fun _ => rfl, ?_⟩
        focus (refine congrArg Ending.returned ?_; rw [ok_of HBB.out HNN.out]; simp; done)
        exact (((((((((((((HOWNF.out.set_ne HQ2.out _).set_ne HQ2.out _).set_ne HQ2.out _).set_ne HQ2.out _).set_ne HQ2.out _).set_ne HQ2.out _).set_ne HQ2.out _).set_ne HQ2.out _).set_ne HQ2.out _).set_ne HQ2.out _).set_ne HQ2.out _).set_ne HQ2.out _).set_ne HQ2.out _).drew
        exact (((((((((((((HST.out.ext.set (Nat.le_refl _) _).set (Nat.le_refl _) _).set (Nat.le_refl _) _).set (Nat.le_refl _) _).set (Nat.le_refl _) _).set (Nat.le_refl _) _).set (Nat.le_refl _) _).set (Nat.le_refl _) _).set (Nat.le_refl _) _).set (Nat.le_refl _) _).set (Nat.le_refl _) _).set (Nat.le_refl _) _).set (Nat.le_refl _) _).drew
      · go_wp2_with fail
        go_region
        go_wp2
        refine bodyPost_ret (v := .tuple #[.agg #[.int .i64 9, .int .i64 0, .int .i64 0, .int .i64 0, .int .i64 0, .int .i64 (rNum (l.tail, b)).1, .int .i64 0, .int .u64 0, .int .u32 0, .bool false, .slice none 0 0, .int .i64 (rNum (rNum (l.tail, b)).2).1, .slice fa out.length fcap], .bool false]) (by simp [results, Tryz.results37, go_sem, *]) rfl ?_
        rw [← E1.out, ← E2.out]
        refine ⟨.agg #[.int .i64 9, .int .i64 0, .int .i64 0, .int .i64 0, .int .i64 0, .int .i64 (rNum (l.tail, b)).1, .int .i64 0, .int .u64 0, .int .u32 0, .bool false, .slice none 0 0, .int .i64 (rNum (rNum (l.tail, b)).2).1, .slice fa out.length fcap], { kind := 9, a := (rNum (l.tail, b)).1, names := (rNum (rNum (l.tail, b)).2).1, files := out }, ?_, ⟨_, _, rfl, Own.nil_ _ _ _, ?_⟩, fun _ => rfl, ?_⟩
        focus (refine congrArg Ending.returned ?_; rw [ok_of HBB.out HNN.out]; simp; done)
        exact (((((((((((((HOWNF.out.set_ne HQ2.out _).set_ne HQ2.out _).set_ne HQ2.out _).set_ne HQ2.out _).set_ne HQ2.out _).set_ne HQ2.out _).set_ne HQ2.out _).set_ne HQ2.out _).set_ne HQ2.out _).set_ne HQ2.out _).set_ne HQ2.out _).set_ne HQ2.out _).set_ne HQ2.out _).drew
        exact (((((((((((((HST.out.ext.set (Nat.le_refl _) _).set (Nat.le_refl _) _).set (Nat.le_refl _) _).set (Nat.le_refl _) _).set (Nat.le_refl _) _).set (Nat.le_refl _) _).set (Nat.le_refl _) _).set (Nat.le_refl _) _).set (Nat.le_refl _) _).set (Nat.le_refl _) _).set (Nat.le_refl _) _).set (Nat.le_refl _) _).set (Nat.le_refl _) _).drew
    · have hn2 : 0 < nn := by omega
      have HNE := Lib.hid (show 0 < st.1.length from by have := HNN.out; omega)
      have HR0 := Lib.hid (show lenOf (wr.cell? ⟨w.heap.size + 1, 0, none⟩) = st.1.length from by rw [r0]; exact HNN.out)
      have HCL := Lib.hid (Array.getElem?_eq_some_iff.1 HST.out.blk).1
      go_wp2_with fail
      go_region_law (first | ((refine step_push1 Kd.pick 108 52 i0 (.agg #[.int .i64 0, .int .u8 0]) 16 (wi.heap.size + 1) (fun _ => False) (.slice fa out.length fcap) out (rPick st).1 wk.heap.size #[.int .i64 (rPick st).1.keep, .int .u8 (rPick st).1.turn] 108 (0, 0) rfl (.tmp 107) (.tmp 110) rfl Tryz.underlying52 hi0 hz0 hsz0 hbt0 rfl (by decide) rfl (by rfl) (heap_alloc_new _ _) (HOK.out.alloc _) (pick_K st) (by have := HLL.out; unfold maxLen; omega) (by have := HLL.out; omega) (by have := HRS.out; have := HCL.out; simp at this ⊢; omega) ?_; intro v5 w5 hown5 hg5; obtain ⟨fa5, fc5, rfl, _, _⟩ := hown5.shape; have HO5 := Lib.hid hown5; have hst := (HST.out.below (Ext.alloc (Ext.rfl_ _) _)).belowN ((Below.refl (wi.heap.size + 1) _).grown hg5 (by have := HRS.out; have := HCL.out; simp at this ⊢; omega) (fun k hk => (HOWN.out.block_lt hk).2)); clear hown5 hg5; have HST := Lib.hid hst; obtain ⟨c0, c1, c2, c3, c4, c5, c6, c7, c8, c9, c10, c11, c12, cf⟩ := act_cells hst.blk; obtain ⟨ra, rcap, bb, nn, hbb, hnn, r0, r1, rf⟩ := hst.reader; have HBB := Lib.hid hbb; have HNN := Lib.hid hnn; clear hst hbb hnn)) | (go_simp; (go_at_call 64; go_must (with_reducible refine (st_pick (HST.out.below (Ext.drew (Ext.rfl_ _)))).mono ?_); rintro e wk ⟨rfl, hst, ho⟩; have HOK := Lib.hid (HOWN.out.keep (w' := wk) (fun k hk hlt => ho.block k hlt (by have := (HOWN.out.block_lt (k := k) (by rcases hk with hk | hk; exact hk.elim; exact hk.symm)).2; have := HST.out.lt; omega)) ho.size); have HRS := Lib.hid (show wr.heap.size ≤ wk.heap.size from ho.size); have hlt9 : wi.heap.size < wk.heap.size := Nat.lt_of_lt_of_le HCL.out HRS.out; have hne9 : wi.heap.size ≠ wk.heap.size := Nat.ne_of_lt hlt9; clear ho; have HST := Lib.hid hst; obtain ⟨c0, c1, c2, c3, c4, c5, c6, c7, c8, c9, c10, c11, c12, cf⟩ := act_cells hst.blk; obtain ⟨ra, rcap, bb, nn, hbb, hnn, r0, r1, rf⟩ := hst.reader; have HBB := Lib.hid hbb; have HNN := Lib.hid hnn; clear hst hbb hnn)))
      all_goals go_wp2
      all_goals go_roundw
      all_goals
        have hst2 := HST.out.setA 12 (.slice fa5 (out.length + 1) fc5)
        simp only [List.setIfInBounds_toArray, List.set_cons_succ, List.set_cons_zero] at hst2
        have hn4 : st.1.length = (rPick st).2.1.length + 1 := by
          have := HNE.out
          simp [rPick, Rd.on]
          omega
        first
          | (refine ⟨fa5, fc5, out ++ [(rPick st).1], (rPick st).2, by rw [List.length_append]; exact hst2, HO5.out.set_ne (p := ⟨wi.heap.size, 12, none⟩) (fun q hq => by have := (HO5.out.block_lt hq).2; simp; omega) _, ?_, ?_, ?_⟩
             · rw [List.length_append]; have := HL3.out; simp only [List.length_cons, List.length_nil]; omega
             · have := HR1.out; rw [hn4] at this; simp only [rPicks] at this; rw [List.append_assoc]; exact this
             · have := HR2.out; rw [hn4] at this; simp only [rPicks] at this; exact this)
          | (obtain ⟨ra2, rcap2, bb2, nn2, _, hnn2, r02, _⟩ := hst2.reader
             rw [r02, HR0.out]
             show nn2 < st.1.length
             omega)
end Go.Proofs.YtjipffbnndbchaaGreatDoor
