/- The walk of Parse. -/
import Derived.Test.YtjipffbnndbchaaGreatDoorPrint
import Derived.Test.YtjipffbnndbchaaGreatDoorCut
import Derived.Test.YtjipffbnndbchaaGreatDoorActIn
import Derived.Test.YtjipffbnndbchaaGreatDoorJoin
namespace Go.Proofs.YtjipffbnndbchaaGreatDoor
open Go.RowKit
set_option maxRecDepth 100000

/-- The words of a line. -/
def splitW (line : ByteArray) : List ByteArray := Lib.splitB (bs [32]) 0 (Lib.countB line (bs [32])) line
/-- A line's act, where the line is right. -/
def lineAct (line : ByteArray) : Option Ac :=
  if (actOf (splitW line)).2.2 = false ∧ (actOf (splitW line)).2.1 = [] ∧ bs (joinL (wordsOf (actOf (splitW line)).1)) = line then some (actOf (splitW line)).1 else none
/-- The acts of the lines ahead of the first one that is wrong, and whether none is. -/
def parseFrom : Nat → ByteArray → List Ac × Bool
  | 0, _ => ([], true)
  | n + 1, s =>
    if s = bs [] then ([], true)
    else if (cutAt s 10).2.2 = true then
      match lineAct (cutAt s 10).1 with
      | some a => (a :: (parseFrom n (cutAt s 10).2.1).1, (parseFrom n (cutAt s 10).2.1).2)
      | none => ([], false)
    else ([], false)

theorem size_data (s : ByteArray) : s.data.toList.length = s.size := by rw [Array.length_toList]; rfl
theorem rest_lt (s : ByteArray) (h : (cutAt s 10).2.2 = true) : (cutAt s 10).2.1.size < s.size := by
  simp only [cutAt, cut_eq] at h ⊢
  have h1 := congrArg List.length (cutL_found 10 s.data.toList h)
  have h2 := size_data s
  have h3 : (⟨(cutL 10 s.data.toList).2.1.toArray⟩ : ByteArray).size = (cutL 10 s.data.toList).2.1.length := bs_size _
  simp only [List.length_append, List.length_cons] at h1
  omega
theorem empty_of (s : ByteArray) (h : s.size = 0) : s = bs [] := by
  apply toList_inj
  rw [ByteArray.toList_eq, ByteArray.toList_eq]
  have := size_data s
  exact List.eq_nil_of_length_eq_zero (by omega)
/-- Fuel beyond the text's length changes nothing. -/
theorem parse_fuel : ∀ (n : Nat) (s : ByteArray) (m : Nat), s.size ≤ n → s.size ≤ m → parseFrom n s = parseFrom m s
  | 0, s, 0, _, _ => rfl
  | 0, s, m + 1, h, _ => by rw [empty_of s (by omega)]; simp [parseFrom]
  | n + 1, s, 0, _, h => by rw [empty_of s (by omega)]; simp [parseFrom]
  | n + 1, s, m + 1, h1, h2 => by
    by_cases he : s = bs []
    · simp [parseFrom, he]
    · by_cases hw : (cutAt s 10).2.2 = true
      · have hr := rest_lt s hw
        have ih := parse_fuel n (cutAt s 10).2.1 m (by omega) (by omega)
        simp only [parseFrom, if_neg he, if_pos hw, ih]
      · simp only [parseFrom, if_neg he, if_neg hw]
theorem countByte_le (c : UInt8) : ∀ l : List UInt8, Lib.countByte l c ≤ l.length := by
  intro l
  simp only [Lib.countByte]
  exact List.count_le_length
theorem split_calls (line : ByteArray) (hs : line.size ≤ 3000) {B : Nat} (w : World) (hG : Glob B w) :
    Calls Tryz.prog 44 #[.string line, .string ⟨#[32]⟩] w fun e w' => ∃ a cap, e = .returned (.slice a (splitW line).length cap) ∧ Row Kd.str w' (fun _ => True) a cap (splitW line) ∧ Ext w w' := by
  have hn : (splitW line).length = Lib.countB line (bs [32]) + 1 := Lib.splitB_all (bs [32]) (by decide) 0 _ line rfl
  have hc := Lib.countB_le (bs [32]) (by decide) _ line (Nat.le_refl _)
  obtain ⟨m, hm⟩ := hG.max
  refine (Tryz.strings_Split line (bs [32]) m w (by omega) hm (by decide)).mono ?_
  rintro e w' ⟨rfl, rfl⟩
  refine ⟨some ⟨w.heap.size, 0, none⟩, Lib.countB line (bs [32]) + 1, by rw [hn], ⟨by omega, ?_, by simp, ?_⟩, Ext.alloc (Ext.rfl_ _) _⟩
  · unfold maxLen; omega
  · rintro ad e _
    cases e
    refine ⟨rfl, trivial, by simp, (splitW line).map Value.string, elems_str _, fun i u hu => ?_⟩
    have := heap_alloc_new w (.cells ((splitW line).map Value.string).toArray 9)
    have hc : (w.alloc (.cells ((splitW line).map Value.string).toArray 9)).cell? ⟨w.heap.size, 0 + i, none⟩ = ((splitW line).map Value.string).toArray[0 + i]? := by
      simp only [World.cell?, this]
      rfl
    exact hc.trans (by simpa using hu)
theorem cutAt_before (s : ByteArray) : (cutAt s 10).1.size ≤ s.size := (cutAt_size s 10).1
/-- What Parse answers. -/
def ParseR (w : World) (r : List Ac × Bool) (e : Ending) (w' : World) : Prop :=
  Ext w w' ∧ (if r.2 = true then ∃ v, e = .returned (.tuple #[v, .int .i64 0, .nilIface]) ∧ Own Kd.act 56 w' w.heap.size (fun k => w.heap.size ≤ k) v r.1
    else e = .returned (.tuple #[.slice none 0 0, .int .i64 (r.1.length + 1), .iface 91 (.int .i64 4)]))
theorem infoAct : (Tryz.prog.info? 56).map (fun i => (i.zero, i.size, i.bytes)) = some (some (.agg cs0), 13, 128) := by kernel_rfl
set_option maxHeartbeats 2000000 in
theorem parse_calls (s : ByteArray) (w : World) {B : Nat} (hG : Glob B w) (hs : s.size ≤ 3000) :
    Calls Tryz.prog 19 #[.string s] w fun e w' => ParseR w (parseFrom s.size s) e w' := by
  have hd1 : decide ((1048576 : Int) < (s.size : Int)) = false := by rw [decide_eq_false_iff_not]; omega
  have hd2 : decide ((4096 : Int) < ((Lib.countByte s.data.toList 10 : Nat) : Int)) = false := by
    have := countByte_le 10 s.data.toList
    have h3 : s.data.toList.length = s.size := by rw [Array.length_toList]; rfl
    rw [decide_eq_false_iff_not]
    omega
  have HG := Lib.hid hG
  clear hG
  obtain ⟨i0, hi, hz, hsz, hbt⟩ := info_parts infoAct
  go_enter Tryz.func19, Tryz.ntmps19
  go_wp2_with (go_at_call 42; go_must (with_reducible refine (Tryz.strings_Count_one s 10 _).mono ?_); rintro e w1 ⟨rfl, rfl⟩)
  go_loopw [0, 5] (fun sv lv wr => ∃ (cur : ByteArray) (done : List Ac), sv = .string cur ∧ cur.size ≤ 3000 ∧ done.length + cur.size ≤ 3000 ∧ Own Kd.act 56 wr w1.heap.size (fun k => w1.heap.size ≤ k) lv done ∧ Ext w1 wr ∧ parseFrom s.size s = (done ++ (parseFrom cur.size cur).1, (parseFrom cur.size cur).2)) (fun sv _ _ => match sv with | .string x => x.size | _ => 0)
  case atStart => exact ⟨s, [], rfl, hs, by simpa using hs, Own.nil_ _ _ _, Ext.rfl_ _, by simp⟩
  case round =>
    obtain ⟨cur, done, rfl, hcs, hdl, hown, hext, hpar⟩ := hrel
    have HO := Lib.hid hown
    have HE := Lib.hid hext
    have HP := Lib.hid hpar
    clear hown hext hpar
    by_cases hc : cur = bs []
    · have h1 : (cur.toList == []) = true := by rw [beq_iff_eq, ByteArray.toList_eq, hc]; rfl
      have HC := Lib.hid hc
      clear hc
      obtain ⟨la, lcap, rfl, _, _⟩ := HO.out.shape
      go_wp2_with fail
      have hp : parseFrom s.size s = (done, true) := by
        rw [HP.out, HC.out]
        show (done ++ (parseFrom (bs []).size (bs [])).1, _) = _
        simp [parseFrom, bs_size]
      refine bodyPost_ret (v := .tuple #[.slice la done.length lcap, .int .i64 0, .nilIface]) (by simp [results, Tryz.results19, go_sem]) rfl ⟨HE.out, ?_⟩
      rw [hp]
      exact ⟨_, rfl, HO.out⟩
    · have h1 : (cur.toList == []) = false := by
        rw [beq_eq_false_iff_ne]
        intro e
        exact hc (toList_inj (by rw [e, ByteArray.toList_eq]; rfl))
      have hcut := fun W (e : Ext w1 W) => cut_calls cur 10 (by omega) W (HG.out.ext e)
      have hbf := cutAt_size cur 10
      have hrl := rest_lt cur
      have hstep : ∃ n, cur.size = n + 1 ∧ parseFrom cur.size cur = (if (cutAt cur 10).2.2 = true then match lineAct (cutAt cur 10).1 with | some a => (a :: (parseFrom (cutAt cur 10).2.1.size (cutAt cur 10).2.1).1, (parseFrom (cutAt cur 10).2.1.size (cutAt cur 10).2.1).2) | none => ([], false) else ([], false)) := by
        cases hn : cur.size with
        | zero => exact absurd (empty_of cur hn) hc
        | succ n =>
          refine ⟨n, rfl, ?_⟩
          rw [parseFrom, if_neg hc]
          by_cases hw : (cutAt cur 10).2.2 = true
          · have := hrl hw
            rw [if_pos hw, if_pos hw, parse_fuel n (cutAt cur 10).2.1 (cutAt cur 10).2.1.size (by omega) (Nat.le_refl _)]
          · rw [if_neg hw, if_neg hw]
      clear hc
      have hdrop := HO.out.shape
      obtain ⟨n1, hn1, hstep⟩ := hstep
      have hp := HP.out
      rw [hstep] at hp
      clear hstep
      generalize cutAt cur 10 = ct at *
      obtain ⟨line, rest, whole⟩ := ct
      simp only at hcut hbf hrl hp
      obtain ⟨la, lcap, rfl, hlc, hlm⟩ := hdrop
      have HCUT := Lib.hid hcut
      have HPP := Lib.hid hp
      clear hcut hp
      have HSM := Lib.hid (show Small (splitW line) from fun x hx => by have := splitB_small (bs [32]) _ line x hx; omega)
      have HLN := Lib.hid (show (splitW line).length ≤ 2000000 from by
        have h7 : (splitW line).length = Lib.countB line (bs [32]) + 1 := Lib.splitB_all (bs [32]) (by decide) 0 _ line rfl
        have h8 := Lib.countB_le (bs [32]) (by decide) _ line (Nat.le_refl _)
        omega)
      have hl3 : line.size ≤ 3000 := by omega
      cases whole
      · go_wp2_with (first | (go_at_call 43; go_must (with_reducible refine (HCUT.out _ HE.out).mono ?_); rintro e w2 ⟨rfl, nd, rfl⟩; have HX := Lib.hid (HE.out.drewN nd); have HR := Lib.hid (Ext.drewN (Ext.rfl_ wr) nd)) | (go_at_call 44; go_must (with_reducible refine (split_calls line (by omega) _ (HG.out.ext HX.out)).mono ?_); rintro e w3 ⟨sa, scap, rfl, hrow, he⟩; have HROW := Lib.hid hrow; have HX3 := Lib.hid (HX.out.trans he); have HR3 := Lib.hid (HR.out.trans he); clear hrow he) | (go_at_call 37; go_must (with_reducible refine (act_calls _ _ _ _ HROW.out HSM.out HLN.out (HG.out.ext HX3.out)).mono ?_); rintro e w4 ⟨v, y, rfl, hv, hy, he⟩; have HV := Lib.hid hv; obtain ⟨dv, fv, rfl, hdo, hfo⟩ := hv; obtain ⟨da, dcap, rfl, _, _⟩ := hdo.shape; obtain ⟨fa, fcap, rfl, _, _⟩ := hfo.shape; have HY := Lib.hid hy; have HX4 := Lib.hid (HX3.out.trans he); have HR4 := Lib.hid (HR3.out.trans he); have HSZ := Lib.hid he; clear hdo hfo hy he))
        refine bodyPost_ret (v := .tuple #[.slice none 0 0, .int .i64 (done.length + 1), .iface 91 (.int .i64 4)]) (by simp [results, Tryz.results19, go_sem]) rfl ⟨HX4.out.alloc _, ?_⟩
        rw [HPP.out]
        simp
      · obtain ⟨okb, hokb⟩ : ∃ okb, okb = (!(actOf (splitW line)).2.2 && (actOf (splitW line)).2.1.isEmpty) := ⟨_, rfl⟩
        have HOKB := Lib.hid hokb
        clear hokb
        cases okb
        · have hnone : lineAct line = none := by
            have := HOKB.out
            rw [lineAct, if_neg]
            rintro ⟨e1, e2, _⟩
            rw [e1, e2] at this
            simp at this
          have HNO := Lib.hid hnone
          clear hnone
          go_wp2_with (first | (go_at_call 43; go_must (with_reducible refine (HCUT.out _ HE.out).mono ?_); rintro e w2 ⟨rfl, nd, rfl⟩; have HX := Lib.hid (HE.out.drewN nd); have HR := Lib.hid (Ext.drewN (Ext.rfl_ wr) nd)) | (go_at_call 44; go_must (with_reducible refine (split_calls line (by omega) _ (HG.out.ext HX.out)).mono ?_); rintro e w3 ⟨sa, scap, rfl, hrow, he⟩; have HROW := Lib.hid hrow; have HX3 := Lib.hid (HX.out.trans he); have HR3 := Lib.hid (HR.out.trans he); clear hrow he) | (go_at_call 37; go_must (with_reducible refine (act_calls _ _ _ _ HROW.out HSM.out HLN.out (HG.out.ext HX3.out)).mono ?_); rintro e w4 ⟨v, y, he0, hv, hy, he⟩; rw [← HOKB.out] at he0; subst he0; have HV := Lib.hid hv; obtain ⟨dv, fv, rfl, hdo, hfo⟩ := hv; obtain ⟨da, dcap, rfl, _, _⟩ := hdo.shape; obtain ⟨fa, fcap, rfl, _, _⟩ := hfo.shape; have HY := Lib.hid hy; have HX4 := Lib.hid (HX3.out.trans he); have HR4 := Lib.hid (HR3.out.trans he); have HSZ := Lib.hid he; clear hdo hfo hy he))
          refine bodyPost_ret (v := .tuple #[.slice none 0 0, .int .i64 (done.length + 1), .iface 91 (.int .i64 4)]) (by simp [results, Tryz.results19, go_sem]) rfl ⟨HX4.out.alloc _, ?_⟩
          rw [HPP.out]
          simp [HNO.out]
        · have hb : (actOf (splitW line)).2.2 = false ∧ (actOf (splitW line)).2.1 = [] := by
            have := HOKB.out
            simp only [Bool.true_eq, Bool.and_eq_true, Bool.not_eq_true', List.isEmpty_iff] at this
            exact this
          have hin : AcIn (actOf (splitW line)).1 := actS_in _ _ HSM.out.tail (by have := HLN.out; simp; omega) hb.1
          have HB := Lib.hid hb
          have HIN := Lib.hid hin
          clear hb hin
          go_wp2_with (first | (go_at_call 43; go_must (with_reducible refine (HCUT.out _ HE.out).mono ?_); rintro e w2 ⟨rfl, nd, rfl⟩; have HX := Lib.hid (HE.out.drewN nd); have HR := Lib.hid (Ext.drewN (Ext.rfl_ wr) nd)) | (go_at_call 44; go_must (with_reducible refine (split_calls line (by omega) _ (HG.out.ext HX.out)).mono ?_); rintro e w3 ⟨sa, scap, rfl, hrow, he⟩; have HROW := Lib.hid hrow; have HX3 := Lib.hid (HX.out.trans he); have HR3 := Lib.hid (HR.out.trans he); clear hrow he) | (go_at_call 37; go_must (with_reducible refine (act_calls _ _ _ _ HROW.out HSM.out HLN.out (HG.out.ext HX3.out)).mono ?_); rintro e w4 ⟨v, y, he0, hv, hy, he⟩; rw [← HOKB.out] at he0; subst he0; have HV := Lib.hid hv; obtain ⟨dv, fv, rfl, hdo, hfo⟩ := hv; obtain ⟨da, dcap, rfl, _, _⟩ := hdo.shape; obtain ⟨fa, fcap, rfl, _, _⟩ := hfo.shape; have HY := Lib.hid hy; have HX4 := Lib.hid (HX3.out.trans he); have HR4 := Lib.hid (HR3.out.trans he); have HSZ := Lib.hid he; clear hdo hfo hy he))
          have hye := HY.out HB.out.1
          have HYIN := Lib.hid (show AcIn y from by rw [hye]; exact HIN.out)
          have hla : lineAct line = if bs (joinL (wordsOf y)) = line then some y else none := by
            rw [lineAct, hye]
            by_cases e : bs (joinL (wordsOf (actOf (splitW line)).1)) = line
            · rw [if_pos ⟨HB.out.1, HB.out.2, e⟩, if_pos e]
            · rw [if_neg (fun h => e h.2.2), if_neg e]
          have HLA := Lib.hid hla
          clear hye hla
          have hEA : Ext w4 (w4.alloc (.cells #[Value.int IntKind.i64 y.kind, Value.int IntKind.i64 y.c, Value.int IntKind.i64 y.op, Value.int IntKind.i64 y.v, Value.int IntKind.i64 y.i, Value.int IntKind.i64 y.a, Value.int IntKind.i64 y.b, Value.int IntKind.u64 y.key, Value.int IntKind.u32 y.cookie, Value.bool y.gone, Value.slice da y.data.length dcap, Value.int IntKind.i64 y.names, Value.slice fa y.files.length fcap] 56)) := Ext.alloc (Ext.rfl_ _) _
          have HX5 := Lib.hid (HX4.out.trans hEA)
          have HSZ5 := Lib.hid (HSZ.out.trans hEA)
          have HN5 := Lib.hid (heap_alloc_new w4 (.cells #[Value.int IntKind.i64 y.kind, Value.int IntKind.i64 y.c, Value.int IntKind.i64 y.op, Value.int IntKind.i64 y.v, Value.int IntKind.i64 y.i, Value.int IntKind.i64 y.a, Value.int IntKind.i64 y.b, Value.int IntKind.u64 y.key, Value.int IntKind.u32 y.cookie, Value.bool y.gone, Value.slice da y.data.length dcap, Value.int IntKind.i64 y.names, Value.slice fa y.files.length fcap] 56))
          have HAR0 := Lib.hid (HV.out.row)
          have HAR := Lib.hid ((ActRow.mono (B := fun _ => True) HAR0.out fun _ _ _ => trivial).below hEA)
          have HJW := Lib.hid (joinL_words y HYIN.out (ActRow.files HAR0.out))
          clear hEA
          refine (words_calls _ y _ (HG.out.ext HX5.out) HYIN.out HAR.out).mono ?_
          rintro e w6 ⟨wv, rfl, hown, he⟩
          have HOW := Lib.hid hown
          have HX6 := Lib.hid (HX5.out.trans he)
          have HR6 := Lib.hid (HR4.out.trans ((Ext.alloc (Ext.rfl_ w4) _).trans he))
          have HS6 := Lib.hid (HSZ5.out.trans he)
          have HAR6 := Lib.hid (ActRow.below HAR0.out ((Ext.alloc (Ext.rfl_ w4) _).trans he))
          have HN6 := Lib.hid ((he.block _ (Array.getElem?_eq_some_iff.1 HN5.out).1).trans HN5.out)
          clear hown he
          have hwne : wordsOf y ≠ [] := by simp [wordsOf]
          have hwl : (wordsOf y).length ≤ 2000000 := by
            have h1 := wordsOf_len y
            have h2 : y.files.length ≤ (splitW line).tail.length := by
              rw [show y = (actOf (splitW line)).1 from HY.out HB.out.1]
              exact actS_files _ _
            rw [List.length_tail] at h2
            have h7 : (splitW line).length = Lib.countB line (bs [32]) + 1 := Lib.splitB_all (bs [32]) (by decide) 0 _ line rfl
            have h8 := Lib.countB_le (bs [32]) (by decide) _ line (Nat.le_refl _)
            omega
          have HJ := Lib.hid (join_calls _ _ w6 HOW.out hwne hwl HJW.out)
          clear hwne hwl
          have HNEW := Lib.hid (show ∀ W, ActRow W (fun k => w3.heap.size ≤ k) (acVal y.kind y.c y.op y.v y.i y.a y.b y.key y.cookie y.gone (.slice da y.data.length dcap) y.names (.slice fa y.files.length fcap)) y → Kd.act.K W (fun k => w1.heap.size ≤ k ∧ some k ≠ (Value.slice la done.length lcap).ownBlock) y #[Value.int IntKind.i64 y.kind, Value.int IntKind.i64 y.c, Value.int IntKind.i64 y.op, Value.int IntKind.i64 y.v, Value.int IntKind.i64 y.i, Value.int IntKind.i64 y.a, Value.int IntKind.i64 y.b, Value.int IntKind.u64 y.key, Value.int IntKind.u32 y.cookie, Value.bool y.gone, Value.slice da y.data.length dcap, Value.int IntKind.i64 y.names, Value.slice fa y.files.length fcap].toList from by
            intro W h
            have hlt : ∀ k, w3.heap.size ≤ k → w1.heap.size ≤ k ∧ some k ≠ (Value.slice la done.length lcap).ownBlock := fun k hk =>
              ⟨Nat.le_trans HX3.out.size hk, fun e => by have := (HO.out.block_lt e.symm).1; have := HR3.out.size; omega⟩
            obtain ⟨r1, r2⟩ := ActRow.rows h
            exact ⟨da, dcap, fa, fcap, rfl, r1.mono fun k hk _ => hlt k hk, r2.mono fun k hk _ => hlt k hk⟩)
          have HB63 := Lib.hid (show done.length + 1 ≤ maxLen from by unfold maxLen; omega)
          have HB47 := Lib.hid (show (done.length + 1) * 128 ≤ 140737488355328 from by omega)
          by_cases hjl : bs (joinL (wordsOf y)) = line
          · have ht : ((bs (joinL (wordsOf y))).toList == line.toList) = true := by rw [beq_iff_eq, hjl]
            have HPF := Lib.hid (show parseFrom s.size s = (done ++ [y] ++ (parseFrom rest.size rest).1, (parseFrom rest.size rest).2) from by
              rw [HPP.out, HLA.out, if_pos hjl]
              simp)
            have hrs := hrl trivial
            clear hjl
            generalize bs (joinL (wordsOf y)) = jn at *
            go_wp2_with (first | (go_at_call 25; go_must (with_reducible refine HJ.out.mono ?_); rintro e w7 ⟨rfl, he⟩; have HX7 := Lib.hid (HX6.out.trans he); have HR7 := Lib.hid (HR6.out.trans he); have HS7 := Lib.hid (HS6.out.trans he); have HAR7 := Lib.hid (ActRow.below HAR6.out he); obtain ⟨d0, d1, d2, d3, d4, d5, d6, d7, d8, d9, d10, d11, d12, df⟩ := act_cells ((he.block _ (Array.getElem?_eq_some_iff.1 HN6.out).1).trans HN6.out); clear he) | (at_builtin; go_must (refine wpList_push1 _ #[Value.int IntKind.i64 y.kind, Value.int IntKind.i64 y.c, Value.int IntKind.i64 y.op, Value.int IntKind.i64 y.v, Value.int IntKind.i64 y.i, Value.int IntKind.i64 y.a, Value.int IntKind.i64 y.b, Value.int IntKind.u64 y.key, Value.int IntKind.u32 y.cookie, Value.bool y.gone, Value.slice da y.data.length dcap, Value.int IntKind.i64 y.names, Value.slice fa y.files.length fcap] 56 Kd.act 56 44 i0 _ 128 w1.heap.size (fun k => w1.heap.size ≤ k) (.slice la done.length lcap) done y rfl (.tmp 51) (.tmp 53) rfl Tryz.underlying44 hi hz hsz hbt rfl (by decide) rfl rfl rfl (HO.out.below HR7.out) (HNEW.out _ HAR7.out) HB63.out HB47.out HX7.out.size ?_); intro v8 w8 hown8 hB8 hG8; obtain ⟨va, vcap, rfl, _, _⟩ := hown8.shape; have HO8 := Lib.hid hown8; have HX8 := Lib.hid (Below.trans HX7.out hB8); clear hown8 hB8 hG8))
            go_roundw
            case rel => exact ⟨rest, done ++ [y], rfl, by omega, by simp; omega, (by have := HO8.out; simpa only [List.length_append, List.length_cons, List.length_nil, Nat.zero_add] using this), HX8.out, HPF.out⟩
            case measure => exact hrs
          · have ht : ((bs (joinL (wordsOf y))).toList == line.toList) = false := by
              rw [beq_eq_false_iff_ne]
              exact fun e => hjl (toList_inj e)
            have HPF := Lib.hid (show parseFrom s.size s = (done, false) from by
              rw [HPP.out, HLA.out, if_neg hjl]
              simp)
            clear hjl
            generalize bs (joinL (wordsOf y)) = jn at *
            go_wp2_with (first | (go_at_call 25; go_must (with_reducible refine HJ.out.mono ?_); rintro e w7 ⟨rfl, he⟩; have HX7 := Lib.hid (HX6.out.trans he); clear he))
            refine bodyPost_ret (v := .tuple #[.slice none 0 0, .int .i64 (done.length + 1), .iface 91 (.int .i64 4)]) (by simp [results, Tryz.results19, go_sem]) rfl ⟨HX7.out, ?_⟩
            rw [HPF.out]
            simp
end Go.Proofs.YtjipffbnndbchaaGreatDoor
