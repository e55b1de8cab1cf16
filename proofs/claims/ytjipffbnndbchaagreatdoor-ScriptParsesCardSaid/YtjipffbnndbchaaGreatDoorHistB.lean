/- The walks of hist: of, the spans, may, chosen, Linear. -/
import Derived.Test.YtjipffbnndbchaaGreatDoorHistA
import Derived.BigQuiet
import Derived.Deep.QuietTactic
namespace Go.Proofs.YtjipffbnndbchaaGreatDoor
open Go.RowKit
set_option maxRecDepth 100000

def hOf (x : HCall) : Int × Int := if hOpen x.en x.cd then (x.bg, 9223372036854775807) else (x.bg, x.en)

set_option maxHeartbeats 1000000 in
theorem of_calls (x : HCall) (a : Option Addr) (c : Nat) (b : Option Addr) (d : Nat) (w : World) :
    Calls Tryz.prog 82 #[.agg (hCallVal x a c b d).toArray] w fun e w' => e = .returned (.agg #[.int .i64 (hOf x).1, .int .i64 (hOf x).2]) ∧ Ext w w' := by
  obtain ⟨op, ck, data, bg, en, cd, got⟩ := x
  simp only [hCallVal]
  go_enter Tryz.func82, Tryz.ntmps82
  go_wp2_with (go_at_call 81; with_reducible refine (open_calls _ _ _ _ _ _ _ _).mono ?_; rintro e w' ⟨rfl, hb⟩; obtain ⟨hc, hf, hs⟩ := bcell hb)
  all_goals go_light
  all_goals (refine bodyPost_ret (v := .agg #[.int .i64 (hOf ⟨op, ck, data, bg, en, cd, got⟩).1, .int .i64 (hOf ⟨op, ck, data, bg, en, cd, got⟩).2]) ?_ rfl ⟨rfl, ?_⟩)
  all_goals first
    | (simp [results, Tryz.results82, go_sem, hOf, *]; done)
    | (repeat' (first | (with_reducible assumption) | exact Ext.rfl_ _ | refine Ext.alloc ?_ _ | (refine Ext.set ?_ ?_ _) | refine Ext.drew ?_ | refine Ext.drewN ?_ _ | (simp; done) | (simp; omega) | refine Ext.trans ?_ (by assumption)))

attribute [local go_sem] two_max two_min

theorem set_span0 {w : World} {p : Nat} {lo hi x : Int} {T : Nat} (h : w.heap[p]? = some (.cells #[.int .i64 lo, .int .i64 hi] T (0, 0))) :
    (w.setCell ⟨p, 0, none⟩ (.int .i64 x)).heap[p]? = some (.cells #[.int .i64 x, .int .i64 hi] T (0, 0)) := by
  simp [World.setCell, Array.getElem?_modify, h]
theorem set_span1 {w : World} {p : Nat} {lo hi x : Int} {T : Nat} (h : w.heap[p]? = some (.cells #[.int .i64 lo, .int .i64 hi] T (0, 0))) :
    (w.setCell ⟨p, 1, none⟩ (.int .i64 x)).heap[p]? = some (.cells #[.int .i64 lo, .int .i64 x] T (0, 0)) := by
  simp [World.setCell, Array.getElem?_modify, h]

set_option maxHeartbeats 400000 in
theorem from_calls (p : Nat) (lo hi t : Int) (w : World) (h : w.heap[p]? = some (.cells #[.int .i64 lo, .int .i64 hi] 143 (0, 0))) :
    Calls Tryz.prog 83 #[.pointer (some ⟨p, 0, none⟩), .int .i64 t] w fun e w' => e = .returned (.tuple #[]) ∧ w' = w.setCell ⟨p, 0, none⟩ (.int .i64 (max lo t)) := by
  have h0 : w.cell? ⟨p, 0, none⟩ = some (.int .i64 lo) := by simp [World.cell?, h]
  have h1 : w.frozen? ⟨p, 0, none⟩ = false := by simp [World.frozen?, h]; try (intros; omega)
  clear h
  go_enter Tryz.func83, Tryz.ntmps83
  go_wp2
  all_goals (go_light; go_end0; refine ⟨rfl, ?_⟩; exact congrArg (fun x => World.setCell w _ (Value.int IntKind.i64 x)) (by omega))

set_option maxHeartbeats 400000 in
theorem till_calls (p : Nat) (lo hi t : Int) (w : World) (h : w.heap[p]? = some (.cells #[.int .i64 lo, .int .i64 hi] 143 (0, 0))) :
    Calls Tryz.prog 85 #[.pointer (some ⟨p, 0, none⟩), .int .i64 t] w fun e w' => e = .returned (.tuple #[]) ∧ w' = w.setCell ⟨p, 1, none⟩ (.int .i64 (min hi t)) := by
  have h0 : w.cell? ⟨p, 1, none⟩ = some (.int .i64 hi) := by simp [World.cell?, h]
  have h1 : w.frozen? ⟨p, 1, none⟩ = false := by simp [World.frozen?, h]; try (intros; omega)
  clear h
  go_enter Tryz.func85, Tryz.ntmps85
  go_wp2
  all_goals (go_light; go_end0; refine ⟨rfl, ?_⟩; exact congrArg (fun x => World.setCell w _ (Value.int IntKind.i64 x)) (by omega))

/-- What the loop of 'chosen' goes through. -/
def hChosenGo (put del : Int) (b : HCall) : List HCall → Nat → Int → Int → Int → Int → Bool
  | [], _, pl, ph, ql, qh => decide (pl ≤ ph) && decide (ql ≤ qh) && decide (pl ≤ qh)
  | c :: r, i, pl, ph, ql, qh =>
    if (hTold c.op c.bg c.en c.cd = 4 ∧ (i : Int) ≠ put) ∨ (hTold c.op c.bg c.en c.cd = 5 ∧ (i : Int) ≠ del) ∨ (hTold c.op c.bg c.en c.cd = 3 ∧ del < 0) then false
    else if hTold c.op c.bg c.en c.cd = 1 then hChosenGo put del b r (i + 1) (max pl c.bg) ph ql qh
    else if hTold c.op c.bg c.en c.cd = 2 then (if hFits c b then hChosenGo put del b r (i + 1) pl (min ph c.en) (max ql c.bg) qh else false)
    else if hTold c.op c.bg c.en c.cd = 3 then hChosenGo put del b r (i + 1) pl ph ql (min qh c.en)
    else hChosenGo put del b r (i + 1) pl ph ql qh
def hNone : HCall := ⟨0, 0, [], 0, 0, 0, []⟩
def hChosen (l : List HCall) (put del : Int) : Bool :=
  let b := l.getD put.toNat hNone
  if 0 ≤ del then
    (let d := l.getD del.toNat hNone
     if d.ck ≠ b.ck then false else hChosenGo put del b l 0 (hOf b).1 (hOf b).2 (hOf d).1 (hOf d).2)
  else hChosenGo put del b l 0 (hOf b).1 (hOf b).2 0 9223372036854775807

/-- Call i of a row that is read: its seven cells. -/
theorem hcall_at {w : World} {A : Nat → Prop} {b off cap : Nat} {l : List HCall} (h : Row kHCall w A (some ⟨b, off, none⟩) cap l) (i : Nat) (hi : i < l.length) :
    ∃ a c a' c', (InK .i64 l[i].op ∧ InK .u32 l[i].ck ∧ InK .i64 l[i].bg ∧ InK .i64 l[i].en ∧ InK .i64 l[i].cd) ∧ Row Kd.u8 w A a c l[i].data ∧ Row Kd.u8 w A a' c' l[i].got ∧
      w.cell? ⟨b, off + i * 7, none⟩ = some (.int .i64 l[i].op) ∧ w.cell? ⟨b, off + i * 7 + 1, none⟩ = some (.int .u32 l[i].ck) ∧ w.cell? ⟨b, off + i * 7 + 2, none⟩ = some (.slice a l[i].data.length c) ∧
      w.cell? ⟨b, off + i * 7 + 3, none⟩ = some (.int .i64 l[i].bg) ∧ w.cell? ⟨b, off + i * 7 + 4, none⟩ = some (.int .i64 l[i].en) ∧ w.cell? ⟨b, off + i * 7 + 5, none⟩ = some (.int .i64 l[i].cd) ∧ w.cell? ⟨b, off + i * 7 + 6, none⟩ = some (.slice a' l[i].got.length c') := by
  obtain ⟨cs, hk, hc⟩ := h.at_ i hi
  obtain ⟨a, c, a', c', rfl, hr, h1, h2⟩ := kHCall_K.1 hk
  have g : ∀ j u, (hCallVal l[i] a c a' c')[j]? = some u → w.cell? ⟨b, off + i * 7 + j, none⟩ = some u := hc
  exact ⟨a, c, a', c', hr, h1, h2, g 0 _ rfl, g 1 _ rfl, g 2 _ rfl, g 3 _ rfl, g 4 _ rfl, g 5 _ rfl, g 6 _ rfl⟩

def hMayGo (op told : Int) : List HCall → Nat → List Int
  | [], _ => []
  | c :: r, i => if c.op = op ∧ (hTold c.op c.bg c.en c.cd = told ∨ hOpen c.en c.cd = true) then (i : Int) :: hMayGo op told r (i + 1) else hMayGo op told r (i + 1)
def hMay (op told : Int) (l : List HCall) : List Int := hMayGo op told l 0
theorem hMayGo_snoc (op told : Int) (c : HCall) : ∀ (l : List HCall) (i : Nat), hMayGo op told (l ++ [c]) i = hMayGo op told l i ++ (if c.op = op ∧ (hTold c.op c.bg c.en c.cd = told ∨ hOpen c.en c.cd = true) then [((i + l.length : Nat) : Int)] else [])
  | [], i => by simp [hMayGo]
  | x :: l, i => by
    simp only [List.cons_append, hMayGo, hMayGo_snoc op told c l (i + 1), List.length_cons]
    rw [show i + 1 + l.length = i + (l.length + 1) from by omega]
    split <;> simp
theorem hMay_take (op told : Int) (l : List HCall) (k : Nat) (h : k < l.length) : hMay op told (l.take (k + 1)) = hMay op told (l.take k) ++ (if l[k].op = op ∧ (hTold l[k].op l[k].bg l[k].en l[k].cd = told ∨ hOpen l[k].en l[k].cd = true) then [(k : Int)] else []) := by
  rw [List.take_succ_eq_append_getElem h]
  have := hMayGo_snoc op told l[k] (l.take k) 0
  simp only [List.length_take, Nat.zero_add, Nat.min_eq_left (Nat.le_of_lt h)] at this
  exact this
theorem hMayGo_len (op told : Int) : ∀ (l : List HCall) (i : Nat), (hMayGo op told l i).length ≤ l.length
  | [], _ => by simp [hMayGo]
  | x :: l, i => by have := hMayGo_len op told l (i + 1); simp only [hMayGo]; split <;> simp <;> omega
theorem hMay_len (op told : Int) (l : List HCall) : (hMay op told l).length ≤ l.length := hMayGo_len _ _ _ _
theorem info3 : (Tryz.prog.info? 3).map (fun i => (i.zero, i.size, i.bytes)) = some (some (.int .i64 0), 1, 8) := by kernel_rfl

set_option maxHeartbeats 2000000 in
theorem may_calls (l : List HCall) (a : Option Addr) (cap : Nat) (op told : Int) (A : Nat → Prop) (w : World) (hl : Row kHCall w A a cap l) (hlen : l.length ≤ 1000000) :
    Calls Tryz.prog 54 #[.slice a l.length cap, .int .i64 op, .int .i64 told] w fun e w' => ∃ v, e = .returned v ∧ Own (Kd.int .i64) 3 w' w.heap.size (fun _ => False) v (hMay op told l) ∧ Ext w w' := by
  obtain ⟨i0, hi, hz, hsz, hbt⟩ := info_parts info3
  go_enter Tryz.func54, Tryz.ntmps54
  go_wp2
  go_loopw [7, 12] (fun v i wr => ∃ k : Nat, k ≤ l.length ∧ i = .int .i64 k ∧ Own (Kd.int .i64) 3 wr w.heap.size (fun _ => False) v (hMay op told (l.take k)) ∧ Ext w wr) (fun _ i _ => l.length - (intOf i).toNat)
  case atStart => exact ⟨0, Nat.zero_le _, rfl, Own.nil_ _ _ _, Ext.rfl_ _⟩
  case round =>
    obtain ⟨k, hk, rfl, hown, hB⟩ := hrel
    by_cases hlt : k < l.length
    · have hl' : Row kHCall wr A a cap l := hl.keep (fun k _ hk => hB.block k hk) hB.size
      obtain ⟨b, off, rfl, _, _⟩ := hl'.some_of (by omega)
      obtain ⟨a1, c1, a2, c2, hr, _, _, g0, g1, g2, g3, g4, g5, g6⟩ := hcall_at hl' k hlt
      have HM := Lib.hid (hMay_take op told l k hlt)
      have HO := Lib.hid hown
      have HB := Lib.hid hB
      clear hown hl' hl hB
      generalize l[k] = x at *
      obtain ⟨xop, ck, data, bg, en, cd, got⟩ := x
      simp only at hr HM g0 g1 g2 g3 g4 g5 g6
      have HIN : InK .i64 (k : Int) := by simp [InK]; omega
      have hlenM : (hMay op told (l.take k)).length ≤ 1000000 := Nat.le_trans (hMay_len op told _) (by rw [List.length_take]; omega)
      by_cases h1 : xop = op
      · have h1' : (xop == op) = true := by simpa using h1
        clear h1
        by_cases h2 : hTold xop bg en cd = told
        · have h2' : (hTold xop bg en cd == told) = true := by simpa using h2
          clear h2
          go_wp2_with (first | (go_at_call 53; with_reducible refine (told_calls _ _ _ _ _ _ _ _).mono ?_; rintro e w1 ⟨rfl, hb⟩; obtain ⟨hc1, hf1, hs1⟩ := bcell hb; have HB1 := Lib.hid hb; clear hb) | (at_builtin; refine wpList_push1 _ #[.int .i64 k] 3 (Kd.int .i64) 3 114 i0 (.int .i64 0) 8 w.heap.size (fun _ => False) u7 (hMay op told (l.take k)) (k : Int) rfl (.tmp 31) (.tmp 33) rfl Tryz.underlying114 hi hz hsz hbt rfl (by decide) rfl rfl (by first | rfl | simp [World.setCell]) ?_ ?_ ?_ ?_ ?_ ?_; exact (HO.out.alloc _).below HB1.out; exact ⟨rfl, HIN⟩; (unfold maxLen; omega); omega; exact Below.size ((HB.out.alloc _).trans HB1.out); intro v' w2 hown' hB' _))
          go_roundw
          case rel => exact ⟨k + 1, by omega, by go_num, by rw [HM.out, if_pos ⟨by simpa using h1', .inl (by simpa using h2')⟩]; exact hown', Below.trans ((HB.out.alloc _).trans HB1.out) hB'⟩
          case measure => simp [intOf]; omega
        · have h2' : (hTold xop bg en cd == told) = false := by simpa using h2
          by_cases h3 : hOpen en cd = true
          · go_wp2_with (first | (go_at_call 53; with_reducible refine (told_calls _ _ _ _ _ _ _ _).mono ?_; rintro e w1 ⟨rfl, hb⟩; obtain ⟨hc1, hf1, hs1⟩ := bcell hb; have HB1 := Lib.hid hb; clear hb) | (go_at_call 81; with_reducible refine (open_calls _ _ _ _ _ _ _ _).mono ?_; rintro e w3 ⟨rfl, hb⟩; obtain ⟨hc2, hf2, hs2⟩ := bcell hb; have HB2 := Lib.hid hb; clear hb) | (at_builtin; refine wpList_push1 _ #[.int .i64 k] 3 (Kd.int .i64) 3 114 i0 (.int .i64 0) 8 w.heap.size (fun _ => False) u7 (hMay op told (l.take k)) (k : Int) rfl (.tmp 31) (.tmp 33) rfl Tryz.underlying114 hi hz hsz hbt rfl (by decide) rfl rfl (by first | rfl | simp [World.setCell]) ?_ ?_ ?_ ?_ ?_ ?_; exact ((HO.out.alloc _).below HB1.out).below HB2.out; exact ⟨rfl, HIN⟩; (unfold maxLen; omega); omega; exact Below.size (((HB.out.alloc _).trans HB1.out).trans HB2.out); intro v' w2 hown' hB' _))
            go_roundw
            case rel => exact ⟨k + 1, by omega, by go_num, by rw [HM.out, if_pos ⟨by simpa using h1', .inr h3⟩]; exact hown', Below.trans (((HB.out.alloc _).trans HB1.out).trans HB2.out) hB'⟩
            case measure => simp [intOf]; omega
          · go_wp2_with (first | (go_at_call 53; with_reducible refine (told_calls _ _ _ _ _ _ _ _).mono ?_; rintro e w1 ⟨rfl, hb⟩; obtain ⟨hc1, hf1, hs1⟩ := bcell hb; have HB1 := Lib.hid hb; clear hb) | (go_at_call 81; with_reducible refine (open_calls _ _ _ _ _ _ _ _).mono ?_; rintro e w3 ⟨rfl, hb⟩; obtain ⟨hc2, hf2, hs2⟩ := bcell hb; have HB2 := Lib.hid hb; clear hb))
            go_roundw
            case rel => exact ⟨k + 1, by omega, by go_num, by rw [HM.out, if_neg (by simp [h2, h3]), List.append_nil]; exact ((HO.out.alloc _).below HB1.out).below HB2.out, (((HB.out.alloc _).trans HB1.out).trans HB2.out)⟩
            case measure => simp [intOf]; omega
      · have h1' : (xop == op) = false := by simpa using h1
        go_wp2
        go_roundw
        case rel => exact ⟨k + 1, by omega, by go_num, by rw [HM.out, if_neg (by simp [h1]), List.append_nil]; exact HO.out.alloc _, HB.out.alloc _⟩
        case measure => simp [intOf]; omega
    · go_wp2
      go_ret
      have : k = l.length := by omega
      subst this
      exact ⟨_, rfl, by rw [List.take_length] at hown; exact hown, hB⟩
end Go.Proofs.YtjipffbnndbchaaGreatDoor
