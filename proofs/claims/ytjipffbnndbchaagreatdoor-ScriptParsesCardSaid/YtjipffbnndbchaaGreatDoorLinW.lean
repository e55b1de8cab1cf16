/- The walk of script.Linear. -/
import Derived.Test.YtjipffbnndbchaaGreatDoorLin
import Derived.Deep.AppendLies
namespace Go.Proofs.YtjipffbnndbchaaGreatDoor
open Go.RowKit
open Go.ChangeMaps (setBlock heap_setBlock_same heap_setBlock_other)
set_option maxRecDepth 100000

set_option maxHeartbeats 2000000 in
theorem lin_calls (l : List WC) (a : Option Addr) (cap : Nat) (w : World) (hl : Row Kd.wc w (fun _ => True) a cap l) (hlen : l.length ≤ 1000000) :
    Calls Tryz.prog 11 #[.slice a l.length cap] w fun e w' => e = .returned (.bool (sLinear l)) ∧ Ext w w' := by
  have hmm := @run_makeMap Tryz.prog
  have HL := Lib.hid (hl.mono (B := fun k => k < w.heap.size) fun k _ hlt => hlt)
  clear hl
  obtain ⟨i0, hi, hz, hsz, hbt⟩ := info_parts infoHC
  go_enter Tryz.func11, Tryz.ntmps11
  go_wp2_with fail
  go_loopw [12] (fun iv wr => ∃ (k : Nat) (gs : List Grp) (es : Array MapEntry), k ≤ l.length ∧ iv = .int .i64 k ∧ w.heap.size < wr.heap.size ∧ Ext w wr ∧ wr.heap[w.heap.size]? = some (.map es gs.length) ∧ MK gs es ∧ MO wr (w.heap.size + 1) (fun k => k < w.heap.size) gs es ∧ gs = groupsOf (l.take k)) (fun iv _ => l.length - (intOf iv).toNat)
  case atStart => exact ⟨0, [], #[], by omega, rfl, by simp, Ext.alloc (Ext.rfl_ _) _, heap_alloc_new _ _, ⟨rfl, rfl⟩, ⟨by simp, by simp⟩, rfl⟩
  case round =>
    obtain ⟨k, gs, es, hk, rfl, hsz0, hext, hheap, hmk, hmo, hgs⟩ := hrel
    have HE := Lib.hid hext
    have HH := Lib.hid hheap
    have HK := Lib.hid hmk
    have HO := Lib.hid hmo
    have HGS := Lib.hid hgs
    have HZ0 := Lib.hid hsz0
    clear hext hheap hmk hmo hgs hmm hsz0
    by_cases hlt : k < l.length
    · have hr := HL.out.below HE.out
      obtain ⟨b, off, rfl, _, _⟩ := hr.some_of (by omega)
      obtain ⟨cs, ⟨da, dcap, ga, gcap, rfl, hin, hrd, hrg⟩, hc⟩ := hr.at_ k hlt
      have hsnoc := groups_snoc l k hlt
      generalize hx : l[k] = x at *
      have HIN := Lib.hid hin
      have HRD := Lib.hid hrd
      have HRG := Lib.hid hrg
      have HSN := Lib.hid hsnoc
      have c0 := hc 0 _ rfl
      have c1 := hc 1 _ rfl
      have c2 := hc 2 _ rfl
      have c3 := hc 3 _ rfl
      have c4 := hc 4 _ rfl
      have c5 := hc 5 _ rfl
      have c6 := hc 6 _ rfl
      have c7 := hc 7 _ rfl
      have c8 := hc 8 _ rfl
      have c9 := hc 9 _ rfl
      have c10 := hc 10 _ rfl
      have c11 := hc 11 _ rfl
      have c12 := hc 12 _ rfl
      have c13 := hc 13 _ rfl
      simp only [Nat.add_zero, Kd.wc] at c0 c1 c2 c3 c4 c5 c6 c7 c8 c9 c10 c11 c12 c13
      obtain ⟨f, es1, v, ys, j, n1, hM⟩ := lin_mid x.p HZ0.out HH.out HK.out HO.out
      have hyl : ys.length ≤ 1000000 := by
        have h1 := addG_len (n := l.length) (gs := gs) (fun g hg => by
          rw [HGS.out] at hg
          have := groups_len _ g hg
          rw [List.length_take] at this
          omega) x.p (x.p, ys) (List.mem_of_getElem? hM.at_)
        simp only at h1
        omega
      have HM := Lib.hid hM
      have hme : ∀ o1 o2 o3, (Instr.mapEntry 83 (.map (some w.heap.size)) (.agg #[.int .i64 x.v, .int .u64 x.key])).run Tryz.prog (((wr.alloc o1).alloc o2).alloc o3) = .ok (.tuple #[v, .int .i64 (j : Nat)]) (f o1 o2 o3) := hM.run
      have HNEW := Lib.hid (show ∀ o1 o2 o3, Elems kHCall (f o1 o2 o3) (fun k => k < w.heap.size ∧ some k ≠ v.ownBlock) [x.h] (hCallVal x.h da dcap ga gcap) from fun o1 o2 o3 => by
        have ho := hM.only o1 o2 o3
        have hkk : ∀ k, k < w.heap.size → k < wr.heap.size → (f o1 o2 o3).heap[k]? = wr.heap[k]? := fun k h1 h2 => ho.block k h2 (Nat.ne_of_lt h1)
        have hmm : ∀ k, k < w.heap.size → k < w.heap.size ∧ some k ≠ v.ownBlock := fun k hk => ⟨hk, fun e => by have := ((hM.own o1 o2 o3).block_lt e.symm).2; omega⟩
        refine Elems.single (kHCall_K.2 ⟨da, dcap, ga, gcap, rfl, HIN.out, ?_, ?_⟩)
        · exact (HRD.out.keep hkk ho.size).mono fun k hk _ => hmm k hk
        · exact (HRG.out.keep hkk ho.size).mono fun k hk _ => hmm k hk)
      have HB1 := Lib.hid (show ys.length + [x.h].length ≤ maxLen from by unfold maxLen; simp; omega)
      have HB2 := Lib.hid (show (ys.length + [x.h].length) * 88 ≤ 140737488355328 from by simp; omega)
      have HB3 := Lib.hid (show ∀ o1 o2 o3, w.heap.size + 1 ≤ (f o1 o2 o3).heap.size from fun o1 o2 o3 => by rw [hM.size]; have := HZ0.out; omega)
      clear hr hx hin hrd hrg hc hM hsnoc hyl
      go_wp2_with (at_builtin; go_must (refine wpList_push (f _ _ _) kHCall 87 86 i0 _ 88 (w.heap.size + 1) (fun k => k < w.heap.size) v ys ⟨wr.heap.size + 1 + 1, 0, none⟩ 1 1 [x.h] (hCallVal x.h da dcap ga gcap) rfl (.tmp 24) (.tmp 43) rfl Tryz.underlying86 hi hz hsz hbt rfl (by decide) rfl rfl rfl (HM.out.own _ _ _) (HNEW.out _ _ _) (World.news_of_block (HM.out.third _ _ _)) HB1.out HB2.out (HB3.out _ _ _) ?_); intro v8 w8 hown8 hg8 hb8; obtain ⟨w9, es9, hst, h1, h2, h3, h4⟩ := lin_end HE.out HZ0.out HM.out _ _ _ hown8 hg8 hb8; have K1 := Lib.hid h1; have K2 := Lib.hid h2; have K3 := Lib.hid h3; have K4 := Lib.hid h4; clear h1 h2 h3 h4 hown8 hg8 hb8)
      go_roundw
      case rel => exact ⟨k + 1, addG gs x.p x.h, es9, by omega, by go_num, (Array.getElem?_eq_some_iff.1 K2.out).1, K1.out, K2.out, K3.out, K4.out, by rw [HSN.out, ← HGS.out]⟩
      case measure => simp [intOf]; omega
    · have hkl : gs = groupsOf l := by rw [HGS.out, show k = l.length from by omega, List.take_length]
      have hrange := run_range_map (P := Tryz.prog) wr 83 85 86 w.heap.size es gs.length mapT HH.out
      have HKL := Lib.hid hkl
      clear hkl
      go_wp2_with fail
      clear hrange
      try go_frame
      obtain ⟨wo, rfl⟩ : ∃ wo : World, wo = wr := ⟨_, rfl⟩
      go_loopw [8] (fun _ wr => ∃ (seen : Array Nat) (c0 : Nat), Ext wo wr ∧ wr.heap[wo.heap.size]? = some (.mapIter (some w.heap.size) gs.length seen c0) ∧ gs.length ≤ c0 ∧ (∀ i g, gs[i]? = some g → seen.contains i = true → hLinear g.2 = true)) (fun _ wr => wr.rangeLeft w.heap.size wo.heap.size)
      case atStart => exact ⟨#[], gs.length, Ext.alloc (Ext.rfl_ _) _, heap_alloc_new _ _, Nat.le_refl _, by simp⟩
      case round =>
        obtain ⟨seen, c0, hext, hit, hc0, hseen⟩ := hrel
        have hold : ∀ x ∈ es.toList, x.born < gs.length := by
          intro x hx
          have : x.born ∈ es.toList.map (·.born) := List.mem_map.2 ⟨x, hx, rfl⟩
          rw [HK.out.borns] at this
          simpa using this
        have hnd : (es.toList.map (·.born)).Nodup := by rw [HK.out.borns]; exact List.nodup_range
        have hneq : wo.heap.size ≠ w.heap.size := by have := HZ0.out; omega
        have hheap : wr.heap[w.heap.size]? = some (.map es gs.length) := (hext.block _ HZ0.out).trans HH.out
        rcases run_next_at (P := Tryz.prog) wr 0 wo.heap.size w.heap.size gs.length c0 seen es gs.length hit hheap hold hc0 with ⟨h0, hrun⟩ | ⟨e, he, w1, hal, hrun⟩
        · have hall : sLinear l = true := by
            rw [sLinear, ← HKL.out, List.all_eq_true]
            intro g hg
            obtain ⟨i, hi, rfl⟩ := List.getElem_of_mem hg
            have hie : i < es.size := by rw [HK.out.size]; exact hi
            have h1 := all_seen es seen h0 es[i] (by simp)
            rw [HK.out.born (i := i) (by simp)] at h1
            exact hseen i _ (List.getElem?_eq_getElem hi) h1
          have HALL := Lib.hid hall
          have HX := Lib.hid (HE.out.trans hext)
          clear hall hext hheap hit hc0 hseen hold hnd hneq h0
          go_wp2_with fail
          go_ret
          exact ⟨ret_bool HALL.out.symm, HX.out⟩
        · obtain ⟨hem, hes⟩ := mem_left he
          have hshr := left_shrinks es seen e he
          obtain ⟨i, hi, hei⟩ := List.getElem_of_mem hem
          have hie : es[i]? = some e := by
            have : i < es.size := by simpa using hi
            rw [Array.getElem?_eq_getElem this, ← hei]
            simp
          have hgi : i < gs.length := by
            have : i < es.size := by simpa using hi
            rw [HK.out.size] at this; exact this
          have hborn := HK.out.born hie
          have hkey := HK.out.key hie (List.getElem?_eq_getElem hgi)
          have hown := HO.out.own i _ e (List.getElem?_eq_getElem hgi) hie
          have hgm : gs[i] ∈ groupsOf l := by rw [← HKL.out]; exact List.getElem_mem hgi
          have hgl := groups_len l _ hgm
          have hfal : hLinear gs[i].2 = false → sLinear l = false := fun h => by
            rw [sLinear, List.all_eq_false]
            exact ⟨_, hgm, by simp [h]⟩
          have hsee : hLinear gs[i].2 = true → ∀ i2 g, gs[i2]? = some g → (seen.push i).contains i2 = true → hLinear g.2 = true := fun h i2 g hg hc => by
            rw [contains_push] at hc
            by_cases h2 : i2 = i
            · subst h2
              rw [List.getElem?_eq_getElem hgi] at hg
              cases hg
              exact h
            · have : (i2 == i) = false := by simpa using h2
              rw [this, Bool.or_false] at hc
              exact hseen i2 g hg hc
          have hit1 : w1.heap[wo.heap.size]? = some (.mapIter (some w.heap.size) gs.length seen c0) := by rcases hal with rfl | rfl <;> exact hit
          have hheap1 : w1.heap[w.heap.size]? = some (.map es gs.length) := by rcases hal with rfl | rfl <;> exact hheap
          have hset := MapKept.heap_set (o' := .mapIter (some w.heap.size) gs.length (seen.push e.born) gs.length) hit1
          have hen := run_entry_at (P := Tryz.prog) (setBlock w1 wo.heap.size (.mapIter (some w.heap.size) gs.length (seen.push e.born) gs.length)) wo.heap.size w.heap.size gs.length seen es gs.length e hset.1 ((hset.2 _ (fun e1 => hneq e1.symm)).trans hheap1) hem hnd
          have hext2 : Ext wo (setBlock w1 wo.heap.size (.mapIter (some w.heap.size) gs.length (seen.push e.born) gs.length)) := by
            refine ⟨?_, ?_, ?_, ?_, fun k hk => (hset.2 k (Nat.ne_of_lt hk)).trans (Eq.trans ?_ (hext.block k hk))⟩
            · rcases hal with rfl | rfl <;> exact hext.os
            · rcases hal with rfl | rfl <;> exact hext.tape
            · rcases hal with rfl | rfl <;> exact hext.output
            · rcases hal with rfl | rfl <;> simpa [setBlock] using hext.size
            · rcases hal with rfl | rfl <;> rfl
          have hit2 : (setBlock w1 wo.heap.size (.mapIter (some w.heap.size) gs.length (seen.push e.born) gs.length)).heap[wo.heap.size]? = some (.mapIter (some w.heap.size) gs.length (seen.push e.born) gs.length) := hset.1
          have hleft : wr.rangeLeft w.heap.size wo.heap.size = (leftOf es seen).size := by simp only [World.rangeLeft, hheap, hit]
          obtain ⟨W2, hW2⟩ : ∃ W2, W2 = setBlock w1 wo.heap.size (.mapIter (some w.heap.size) gs.length (seen.push e.born) gs.length) := ⟨_, rfl⟩
          rw [← hW2] at hen hrun hext2 hit2
          rw [hborn] at hit2 hshr
          obtain ⟨ek, ev, eb⟩ := e
          simp only at hkey hown hborn hen hrun
          generalize gs[i] = g at *
          subst hkey
          obtain ⟨av, capv, rfl, hrow⟩ := hown.row
          have hrow2 := hrow.below hext2
          have hmr : ∀ w3, Ext W2 w3 → (Array.size (leftOf es (seen.push i)) < (leftOf es seen).size → w3.rangeLeft w.heap.size wo.heap.size < wr.rangeLeft w.heap.size wo.heap.size) := fun w3 h3 hlt2 => by
            rw [hleft]
            have e1 : w3.heap[w.heap.size]? = some (.map es gs.length) := (h3.block _ (by have := hext2.size; have := HZ0.out; omega)).trans ((hext2.block _ HZ0.out).trans HH.out)
            have e2 := (h3.block _ (Array.getElem?_eq_some_iff.1 hit2).1).trans hit2
            simp only [World.rangeLeft, e1, e2]
            exact hlt2
          have HMR := Lib.hid hmr
          have HSHR := Lib.hid hshr
          have HX2 := Lib.hid hext2
          have HIT2 := Lib.hid hit2
          have HSEE := Lib.hid hsee
          have HFAL := Lib.hid hfal
          have HCALL := Lib.hid (hLinear_calls g.2 av capv _ W2 hrow2 (by omega))
          clear hmr hshr hext2 hit2 hsee hfal hrow hrow2 hown hset hit1 hheap1 hleft hext hit hc0 hseen hold hnd hneq hheap he hal hem hes hi hei hie hgi hborn hgm hgl hW2
          by_cases hlin : hLinear g.2 = true
          · rw [hlin] at HCALL
            have HL2 := Lib.hid hlin
            clear hlin
            go_wp2_with (go_at_call 32; go_must (with_reducible refine HCALL.out.mono ?_); rintro e w3 ⟨rfl, hb⟩; have HB3 := Lib.hid hb; clear hb)
            go_roundw
            case rel => exact ⟨seen.push i, gs.length, HX2.out.trans HB3.out, (HB3.out.block _ (Array.getElem?_eq_some_iff.1 HIT2.out).1).trans HIT2.out, Nat.le_refl _, HSEE.out HL2.out⟩
            case measure => exact HMR.out _ HB3.out HSHR.out
          · have hlf : hLinear g.2 = false := by simpa using hlin
            rw [hlf] at HCALL
            have HL2 := Lib.hid hlf
            clear hlin hlf
            go_wp2_with (go_at_call 32; go_must (with_reducible refine HCALL.out.mono ?_); rintro e w3 ⟨rfl, hb⟩; have HB3 := Lib.hid hb; clear hb)
            go_ret
            exact ⟨ret_bool (HFAL.out HL2.out).symm, HE.out.trans (HX2.out.trans HB3.out)⟩
end Go.Proofs.YtjipffbnndbchaaGreatDoor
