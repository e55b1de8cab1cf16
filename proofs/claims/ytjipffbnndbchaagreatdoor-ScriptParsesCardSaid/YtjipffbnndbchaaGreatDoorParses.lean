/- The walk of ScriptParses. -/
import Derived.Test.YtjipffbnndbchaaGreatDoorPlain2
import Derived.Test.YtjipffbnndbchaaGreatDoorAlive
namespace Go.Proofs.YtjipffbnndbchaaGreatDoor
open Go.RowKit
set_option maxRecDepth 100000

theorem parse_ok {B : Nat} (s : ByteArray) (acts : List Ac) (hs : s.size ≤ 3000) (hp : parseFrom s.size s = (acts, true)) (W : World) (hG : Glob B W) :
    Calls Tryz.prog 19 #[.string s] W fun e w' => ∃ a cap, e = .returned (.tuple #[.slice a acts.length cap, .int .i64 0, .nilIface]) ∧ Row Kd.act w' (fun _ => True) a cap acts ∧ Ext W w' := by
  refine (parse_calls s W hG hs).mono ?_
  rintro e w' ⟨h1, h2⟩
  rw [hp] at h2
  simp only [if_true] at h2
  obtain ⟨v, rfl, ho⟩ := h2
  obtain ⟨a, cap, rfl, hr⟩ := ho.row
  exact ⟨a, cap, rfl, hr.mono fun _ _ _ => trivial, h1⟩
theorem parse_no {B : Nat} (s : ByteArray) (acts : List Ac) (hs : s.size ≤ 3000) (hp : parseFrom s.size s = (acts, false)) (W : World) (hG : Glob B W) :
    Calls Tryz.prog 19 #[.string s] W fun e w' => e = .returned (.tuple #[.slice none 0 0, .int .i64 (acts.length + 1), codeV 4]) ∧ Ext W w' := by
  refine (parse_calls s W hG hs).mono ?_
  rintro e w' ⟨h1, h2⟩
  rw [hp] at h2
  simp at h2
  exact ⟨h2, h1⟩

set_option maxHeartbeats 1000000 in
theorem parses_ok {B : Nat} (s : ByteArray) (acts : List Ac) (hs : s.size ≤ 3000) (hp : parseFrom s.size s = (acts, true)) (w : World) (hG : Glob B w) :
    Calls Tryz.prog 5 #[.string s] w fun e w' => e = .returned (.bool true) ∧ Ext w w' := by
  have hpp : parseFrom s.size (bs s.data.toList) = (acts, true) := by rw [bs_of]; exact hp
  obtain ⟨rest, h1, h2, h3, _⟩ := parse_split s.size s.data.toList acts true hpp (by rw [size_data]; exact Nat.le_refl _) (by rw [size_data]; exact hs)
  rw [h3 rfl, List.append_nil] at h1
  have hfl : (acts.flatMap lineL).length ≤ 3000 := by rw [← h1, size_data]; exact hs
  have hcl := count_lines acts h2
  have hal : acts.length ≤ 4096 := by
    have := List.count_le_length (a := (10 : UInt8)) (l := acts.flatMap lineL)
    omega
  have hbs : bs (acts.flatMap lineL) = s := by rw [← h1, bs_of]
  have hPR : ∀ (W : World) a cap, Ext w W → Row Kd.act W (fun _ => True) a cap acts → Calls Tryz.prog 18 #[.slice a acts.length cap] W fun e w' => e = .returned (.tuple #[.string s, .nilIface]) ∧ Ext W w' := by
    intro W a cap e hr
    have := print_ok a acts cap W (hG.ext e) hr (fun x hx => (h2 x hx).lined) hal (by omega)
    rwa [hbs] at this
  have HPR := Lib.hid hPR
  have HG := Lib.hid hG
  have HP := Lib.hid hp
  have hd : decide ((3000 : Int) < (s.size : Int)) = false := by rw [decide_eq_false_iff_not]; omega
  clear hPR hG hp hpp h1 h2 h3 hfl hcl hal hbs
  go_enter Tryz.func5, Tryz.ntmps5
  go_wp2_with (first | (go_at_call 6; go_must (with_reducible refine (alive_calls _ HG.out).mono ?_); rintro e w1 ⟨rfl, he⟩; have HE1 := Lib.hid he; clear he) | (go_at_call 19; go_must (with_reducible refine (parse_ok s acts hs HP.out _ (HG.out.ext HE1.out)).mono ?_); rintro e w2 ⟨a, cap, rfl, hr, he⟩; have HR2 := Lib.hid hr; have HE2 := Lib.hid (HE1.out.trans he); clear hr he) | (go_at_call 15; (with_reducible refine (code_nil _).mono ?_); rintro e w3 ⟨rfl, he⟩; first | (have HE4 := Lib.hid (HE5.out.trans he)) | (have HR3 := Lib.hid (HR2.out.below he); have HE3 := Lib.hid (HE2.out.trans he)); clear he) | (go_at_call 18; go_must (with_reducible refine (HPR.out _ _ _ HE3.out HR3.out).mono ?_); rintro e w5 ⟨rfl, he⟩; have HE5 := Lib.hid (HE3.out.trans he); clear he))
  go_ret
  exact ⟨rfl, HE4.out⟩

/-! ### The first line that is wrong -/
theorem count_take_succ (c : UInt8) (l : List UInt8) (k : Nat) (h : k < l.length) : (l.take (k + 1)).count c = (l.take k).count c + if l[k] = c then 1 else 0 := by
  rw [List.take_add_one, List.getElem?_eq_getElem h, List.count_append]
  simp only [Option.toList_some, List.count_singleton]
  by_cases e : l[k] = c
  · simp [e]
  · have : (l[k] == c) = false := by rw [beq_eq_false_iff_ne]; exact e
    simp [e, this]
theorem lines_last (acts : List Ac) (hne : acts ≠ []) : ∃ init, acts.flatMap lineL = init ++ [10] := by
  obtain ⟨xs, a, rfl⟩ : ∃ xs a, acts = xs ++ [a] := ⟨acts.dropLast, acts.getLast hne, (List.dropLast_concat_getLast hne).symm⟩
  exact ⟨xs.flatMap lineL ++ joinL (wordsOf a), by simp [lineL]⟩
theorem lines_count (acts : List Ac) (hg : ∀ x ∈ acts, Good x) (k : Nat) (h : k < (acts.flatMap lineL).length) : ((acts.flatMap lineL).take k).count 10 < acts.length := by
  have hne : acts ≠ [] := by rintro rfl; simp at h
  obtain ⟨init, hi⟩ := lines_last acts hne
  have hc := count_lines acts hg
  rw [hi] at hc h ⊢
  simp only [List.count_append, List.count_singleton, beq_self_eq_true, if_true, List.length_append, List.length_cons, List.length_nil] at hc h
  have h1 : (init ++ [10]).take k = init.take k := by rw [List.take_append_of_le_length (by omega)]
  have h2 : (init.take k).count 10 ≤ init.count 10 := (List.take_sublist k init).count_le 10
  rw [h1]
  omega
/-- What the loops need of a text whose first wrong line stands behind pre. -/
structure Wrong (s : ByteArray) (acts : List Ac) (pre l1 : List UInt8) (e : Nat) : Prop where
  fits : pre.length + l1.length ≤ s.size
  at_ : ∀ k (h : k < s.size), k < pre.length → pre[k]? = some s[k]
  cnt : ∀ k, k < pre.length → (pre.take k).count 10 < acts.length
  tot : pre.count 10 = acts.length
  rest : pre.length < s.size
  line : ∀ k (h : k < s.size), pre.length ≤ k → k < pre.length + l1.length → s[k] ≠ 10
  stop : ∀ (h : pre.length + l1.length < s.size), s[pre.length + l1.length] = 10
  he : e = if pre.length + l1.length < s.size then pre.length + l1.length + 1 else pre.length + l1.length
  le : e ≤ s.size
  ahead : parseFrom (s.extract 0 pre.length).size (s.extract 0 pre.length) = (acts, true)
  wrong : parseFrom (s.extract pre.length e).size (s.extract pre.length e) = ([], false)
theorem bs_extract (l : List UInt8) (a b : Nat) : (bs l).extract a b = bs ((l.drop a).take (b - a)) := by
  apply toList_inj
  rw [ByteArray.toList_eq, ByteArray.toList_eq]
  simp [bs]
theorem get_data (s : ByteArray) (k : Nat) (h : k < s.size) : s.data.toList[k]? = some s[k] := by
  have h2 : k < s.data.toList.length := by rw [size_data]; exact h
  rw [List.getElem?_eq_getElem h2]
  rfl
theorem wrong_of (s : ByteArray) (acts : List Ac) (hs : s.size ≤ 3000) (hp : parseFrom s.size s = (acts, false)) : ∃ pre l1 e, Wrong s acts pre l1 e := by
  have hpp : parseFrom s.size (bs s.data.toList) = (acts, false) := by rw [bs_of]; exact hp
  obtain ⟨rest, h1, h2, _, h3⟩ := parse_split s.size s.data.toList acts false hpp (by rw [size_data]; exact Nat.le_refl _) (by rw [size_data]; exact hs)
  obtain ⟨hne, hbad⟩ := h3 rfl
  have hsz : s.size = (acts.flatMap lineL).length + rest.length := by rw [← size_data, h1, List.length_append]
  have hbs : s = bs (acts.flatMap lineL ++ rest) := by rw [← h1, bs_of]
  have hrl : 0 < rest.length := List.length_pos_iff.2 hne
  have hno := cutL_no 10 rest
  have hget : ∀ k (h : k < s.size), (acts.flatMap lineL ++ rest)[k]? = some s[k] := fun k h => by rw [← h1]; exact get_data s k h
  generalize hpre : acts.flatMap lineL = pre at *
  have hcases : (∃ la lb, rest = la ++ 10 :: lb ∧ (10 : UInt8) ∉ la ∧ headLine rest = la ++ [10]) ∨ ((10 : UInt8) ∉ rest ∧ headLine rest = rest) := by
    cases h : (cutL 10 rest).2.2 with
    | true => exact .inl ⟨_, _, cutL_found 10 rest h, hno, by rw [headLine, if_pos h]⟩
    | false => exact .inr ⟨cutL_none 10 rest h, by rw [headLine, if_neg (by rw [h]; simp)]⟩
  have hl1 : ∃ l1 : List UInt8, (∀ k, k < l1.length → ∃ c, rest[k]? = some c ∧ c ≠ 10) ∧ ((l1.length < rest.length ∧ rest[l1.length]? = some 10 ∧ headLine rest = rest.take (l1.length + 1)) ∨ (l1.length = rest.length ∧ headLine rest = rest.take l1.length)) := by
    rcases hcases with ⟨la, lb, hr, hn, hh⟩ | ⟨hr, hh⟩
    · refine ⟨la, fun k hk => ?_, .inl ⟨?_, ?_, ?_⟩⟩
      · rw [hr, List.getElem?_append_left hk, List.getElem?_eq_getElem hk]
        refine ⟨_, rfl, fun e => hn ?_⟩
        rw [← e]
        exact List.getElem_mem hk
      · rw [hr, List.length_append, List.length_cons]; omega
      · rw [hr, List.getElem?_append_right (Nat.le_refl _)]
        simp
      · rw [hh, hr, List.take_append, List.take_of_length_le (by omega)]
        simp
    · refine ⟨rest, fun k hk => ?_, .inr ⟨rfl, ?_⟩⟩
      · rw [List.getElem?_eq_getElem hk]
        refine ⟨_, rfl, fun e => hr ?_⟩
        rw [← e]
        exact List.getElem_mem hk
      · rw [hh, List.take_length]
  obtain ⟨l1, hin, hend⟩ := hl1
  have hll : l1.length ≤ rest.length := by rcases hend with h | h <;> omega
  have hatr : ∀ k (h : k < s.size), pre.length ≤ k → rest[k - pre.length]? = some s[k] := fun k h hk => by
    rw [← hget k h, List.getElem?_append_right hk]
  refine ⟨pre, l1, _, ⟨by omega, fun k h hk => ?_, fun k hk => ?_, ?_, by omega, fun k h hk hk2 => ?_, fun h => ?_, rfl, ?_, ?_, ?_⟩⟩
  · rw [← hget k h, List.getElem?_append_left hk]
  · rw [← hpre]; exact lines_count acts h2 k (by rw [hpre]; exact hk)
  · rw [← hpre]; exact count_lines acts h2
  · obtain ⟨c, h4, h5⟩ := hin (k - pre.length) (by omega)
    rw [hatr k h hk] at h4
    rw [Option.some.inj h4]
    exact h5
  · rcases hend with h4 | h4
    · have := hatr _ h (by omega)
      rw [Nat.add_sub_cancel_left, h4.2.1] at this
      exact (Option.some.inj this).symm
    · omega
  · split <;> omega
  · have : s.extract 0 pre.length = bs (acts.flatMap lineL) := by
      rw [hbs, bs_extract, hpre]
      simp
    rw [this, bs_size]
    exact parse_lines acts h2 _ (Nat.le_refl _)
  · have : s.extract pre.length (if pre.length + l1.length < s.size then pre.length + l1.length + 1 else pre.length + l1.length) = bs (headLine rest) := by
      conv => lhs; rw [hbs]
      rw [bs_extract, List.drop_left]
      rcases hend with h4 | h4
      · rw [if_pos (by rw [bs_size, List.length_append]; omega), h4.2.2]
        congr 2
        omega
      · rw [if_neg (by rw [bs_size, List.length_append]; omega), h4.2]
        congr 2
        omega
    rw [this, bs_size]
    have hpos : 0 < (headLine rest).length := by
      rcases hend with h4 | h4
      · rw [h4.2.2, List.length_take]; omega
      · rw [h4.2, List.length_take]; omega
    obtain ⟨m, hm⟩ : ∃ m, (headLine rest).length = m + 1 := ⟨_, (Nat.succ_pred_eq_of_pos hpos).symm⟩
    rw [hm]
    exact parse_bad hne hbad m
set_option maxHeartbeats 2000000 in
theorem parses_bad {B : Nat} (s : ByteArray) (acts : List Ac) (hs : s.size ≤ 3000) (hp : parseFrom s.size s = (acts, false)) (w : World) (hG : Glob B w) :
    Calls Tryz.prog 5 #[.string s] w fun e w' => e = .returned (.bool true) ∧ Ext w w' := by
  obtain ⟨pre, l1, en, hW⟩ := wrong_of s acts hs hp
  have HW := Lib.hid hW
  have HG := Lib.hid hG
  have HP := Lib.hid hp
  have hd : decide ((3000 : Int) < (s.size : Int)) = false := by rw [decide_eq_false_iff_not]; omega
  have hfit := hW.fits
  have hrest := hW.rest
  have hacts : acts.length ≤ 3000 := by
    have := List.count_le_length (a := (10 : UInt8)) (l := pre)
    rw [hW.tot] at this
    omega
  clear hG hp hW
  go_enter Tryz.func5, Tryz.ntmps5
  go_wp2_with (first | (go_at_call 6; go_must (with_reducible refine (alive_calls _ HG.out).mono ?_); rintro e w1 ⟨rfl, he⟩; have HE1 := Lib.hid he; clear he) | (go_at_call 19; go_must (with_reducible refine (parse_no s acts hs HP.out _ (HG.out.ext HE1.out)).mono ?_); rintro e w2 ⟨rfl, he⟩; have HE2 := Lib.hid (HE1.out.trans he); clear he) | (go_at_call 15; (with_reducible refine (code_of 4 (by decide) (by decide) _).mono ?_); rintro e w3 ⟨rfl, he⟩; first | (have HE4 := Lib.hid (HE3.out.trans he)) | (have HE3 := Lib.hid (HE2.out.trans he)); clear he))
  go_loop [8, 9] (fun av ln => ∃ (k c : Nat), k ≤ pre.length ∧ av = .int .i64 k ∧ ln = .int .i64 ((c : Int) + 1) ∧ c = (pre.take k).count 10) (fun av _ => s.size - (intOf av).toNat)
  case atStart => exact ⟨0, 0, by omega, rfl, rfl, by simp⟩
  case round =>
    obtain ⟨k, c, hk, rfl, rfl, hc⟩ := hrel
    by_cases hlt : k < pre.length
    · have hks : k < s.size := by omega
      have hcl : c < acts.length := by rw [hc]; exact HW.out.cnt k hlt
      have hsucc := count_take_succ 10 pre k hlt
      rw [← hc] at hsucc
      have hpk : pre[k] = s[k] := by
        have := HW.out.at_ k hks hlt
        rw [List.getElem?_eq_getElem hlt] at this
        exact Option.some.inj this
      rw [hpk] at hsucc
      have HS := Lib.hid hsucc
      clear hc hpk hsucc
      by_cases h10 : s[k] = 10
      · have ht : ((s[k].toNat : Int) == 10) = true := by rw [h10]; rfl
        have HS1 := Lib.hid (show (pre.take (k + 1)).count 10 = c + 1 by rw [HS.out, if_pos h10])
        clear h10 HS
        go_wp2
        go_round
        case rel => exact ⟨k + 1, c + 1, by omega, by go_num, by go_num, HS1.out.symm⟩
        case measure => simp [intOf]; omega
      · have ht : ((s[k].toNat : Int) == 10) = false := by
          rw [beq_eq_false_iff_ne]
          intro e
          apply h10
          apply UInt8.toNat_inj.1
          show s[k].toNat = 10
          omega
        have HS1 := Lib.hid (show (pre.take (k + 1)).count 10 = c by rw [HS.out, if_neg h10]; rfl)
        clear h10 HS
        go_wp2
        go_round
        case rel => exact ⟨k + 1, c, by omega, by go_num, rfl, HS1.out.symm⟩
        case measure => simp [intOf]; omega
    · have hkp : k = pre.length := by omega
      have hca : c = acts.length := by rw [hc, hkp, List.take_length, HW.out.tot]
      clear hc hlt
      subst hkp
      subst hca
      go_wp2_with fail
      go_loop [10] (fun ev => ∃ m : Nat, pre.length ≤ m ∧ m ≤ pre.length + l1.length ∧ ev = .int .i64 m) (fun ev => s.size - (intOf ev).toNat)
      case atStart => exact ⟨pre.length, by omega, by omega, rfl⟩
      case round =>
        obtain ⟨m, hm1, hm2, rfl⟩ := hrel
        by_cases hlt : m < pre.length + l1.length
        · have hms : m < s.size := by omega
          have h10 := HW.out.line m hms hm1 hlt
          have ht : ((s[m].toNat : Int) != 10) = true := by
            rw [bne_iff_ne]
            intro e
            apply h10
            apply UInt8.toNat_inj.1
            show s[m].toNat = 10
            omega
          clear h10
          go_wp2
          go_round
          case rel => exact ⟨m + 1, by omega, by omega, by go_num⟩
          case measure => simp [intOf]; omega
        · have hme : m = pre.length + l1.length := by omega
          subst hme
          have hle := HW.out.le
          have hee := HW.out.he
          have HAH := Lib.hid (fun W (e : Ext w W) => parse_ok (s.extract 0 pre.length) acts (by rw [ByteArray.size_extract]; omega) HW.out.ahead W (HG.out.ext e))
          have HWR := Lib.hid (fun W (e : Ext w W) => parse_no (s.extract pre.length en) [] (by rw [ByteArray.size_extract]; omega) HW.out.wrong W (HG.out.ext e))
          by_cases hms : pre.length + l1.length < s.size
          · have h10 := HW.out.stop hms
            have ht : ((s[pre.length + l1.length].toNat : Int) != 10) = false := by rw [h10]; rfl
            rw [if_pos hms] at hee
            subst hee
            clear h10
            go_wp2_with (first | (go_at_call 19; (first | (with_reducible refine (HAH.out _ HE4.out).mono ?_; rintro e w4 ⟨aa, acap, rfl, hr, he⟩; have HE5 := Lib.hid (HE4.out.trans he); clear hr he) | (with_reducible refine (HWR.out _ HE5.out).mono ?_; rintro e w5 ⟨rfl, he⟩; have HE6 := Lib.hid (HE5.out.trans he); clear he))) | (go_at_call 15; (first | (with_reducible refine (code_nil _).mono ?_; rintro e w6 ⟨rfl, he⟩; have HE7 := Lib.hid (HE6.out.trans he); clear he) | (with_reducible refine (code_of 4 (by decide) (by decide) _).mono ?_; rintro e w7 ⟨rfl, he⟩; have HE8 := Lib.hid (HE7.out.trans he); clear he))))
            go_ret
            exact ⟨rfl, HE8.out⟩
          · rw [if_neg hms] at hee
            subst hee
            go_wp2_with (first | (go_at_call 19; (first | (with_reducible refine (HAH.out _ HE4.out).mono ?_; rintro e w4 ⟨aa, acap, rfl, hr, he⟩; have HE5 := Lib.hid (HE4.out.trans he); clear hr he) | (with_reducible refine (HWR.out _ HE5.out).mono ?_; rintro e w5 ⟨rfl, he⟩; have HE6 := Lib.hid (HE5.out.trans he); clear he))) | (go_at_call 15; (first | (with_reducible refine (code_nil _).mono ?_; rintro e w6 ⟨rfl, he⟩; have HE7 := Lib.hid (HE6.out.trans he); clear he) | (with_reducible refine (code_of 4 (by decide) (by decide) _).mono ?_; rintro e w7 ⟨rfl, he⟩; have HE8 := Lib.hid (HE7.out.trans he); clear he))))
            go_ret
            exact ⟨rfl, HE8.out⟩

theorem parses_calls {B : Nat} (s : ByteArray) (w : World) (hG : Glob B w) :
    Calls Tryz.prog 5 #[.string s] w fun e w' => e = .returned (.bool true) ∧ Ext w w' := by
  by_cases hs : s.size ≤ 3000
  · cases h : parseFrom s.size s with
    | mk acts b =>
      cases b with
      | true => exact parses_ok s acts hs h w hG
      | false => exact parses_bad s acts hs h w hG
  · have hd : decide ((3000 : Int) < (s.size : Int)) = true := by rw [decide_eq_true_iff]; omega
    have HG := Lib.hid hG
    clear hG hs
    go_enter Tryz.func5, Tryz.ntmps5
    go_wp2_with (go_at_call 6; go_must (with_reducible refine (alive_calls _ HG.out).mono ?_); rintro e w1 ⟨rfl, he⟩; have HE1 := Lib.hid he; clear he)
    go_ret
    exact ⟨rfl, HE1.out⟩
end Go.Proofs.YtjipffbnndbchaaGreatDoor
