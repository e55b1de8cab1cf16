/- What script's words tells of an act. -/
import Derived.Test.YtjipffbnndbchaaGreatDoorWdC
import Derived.Test.YtjipffbnndbchaaGreatDoorWdD
import Derived.Test.YtjipffbnndbchaaGreatDoorWdE
import Derived.Test.YtjipffbnndbchaaGreatDoorWdF
namespace Go.Proofs.YtjipffbnndbchaaGreatDoor
open Go.RowKit
set_option maxRecDepth 100000

/-- An act's fields are in their ranges. -/
structure AcIn (x : Ac) : Prop where
  k0 : 0 ≤ x.kind
  k1 : x.kind ≤ 11
  c : InK .i64 x.c
  op : InK .i64 x.op
  v : InK .i64 x.v
  i : InK .i64 x.i
  a : InK .i64 x.a
  b : InK .i64 x.b
  key : InK .u64 x.key
  cookie : InK .u32 x.cookie
  names : InK .i64 x.names
  data : x.data.length ≤ 1000000
  files : x.files.length ≤ 2000000
/-- An act's value whose rows are read. -/
def ActRow (W : World) (A : Nat → Prop) (v : Value) (x : Ac) : Prop :=
  ∃ da dcap fa fcap, v = acVal x.kind x.c x.op x.v x.i x.a x.b x.key x.cookie x.gone (.slice da x.data.length dcap) x.names (.slice fa x.files.length fcap) ∧ Row (Kd.int .u8) W A da dcap x.data ∧ Row Kd.pick W A fa fcap x.files
theorem ActV.row {W : World} {base : Nat} {v : Value} {x : Ac} (h : ActV W base v x) : ActRow W (fun k => base ≤ k) v x := by
  obtain ⟨dv, fv, rfl, h1, h2⟩ := h
  obtain ⟨da, dcap, rfl, h3⟩ := h1.row
  obtain ⟨fa, fcap, rfl, h4⟩ := h2.row
  exact ⟨da, dcap, fa, fcap, rfl, h3.mono fun k hk _ => hk.elim False.elim id, h4.mono fun k hk _ => hk.elim False.elim id⟩
theorem ActRow.below {W W' : World} {A : Nat → Prop} {v : Value} {x : Ac} (h : ActRow W A v x) (e : Ext W W') : ActRow W' A v x := by
  obtain ⟨da, dcap, fa, fcap, e1, h1, h2⟩ := h
  exact ⟨da, dcap, fa, fcap, e1, h1.below e, h2.below e⟩

def kindName (k : Int) : ByteArray := nameList.getD k.toNat (bs [])
def argsOf (x : Ac) : List ByteArray :=
  if x.kind = 0 then [bs (Lib.itoa x.c), opName x.op, bs (Lib.itoa x.v), bs (Lib.decDigits x.key.toNat), bs (Lib.decDigits x.cookie.toNat)] ++ (if x.op = 1 then [hexStr x.data] else [])
  else if x.kind = 1 ∨ x.kind = 11 then [bs (Lib.itoa x.c)]
  else if x.kind = 2 ∨ x.kind = 3 ∨ x.kind = 4 then [bs (Lib.itoa x.i)]
  else if x.kind = 5 ∨ x.kind = 6 then [bs (Lib.itoa x.a), bs (Lib.itoa x.b)]
  else if x.kind = 7 then [bs (Lib.itoa x.a), bs (Lib.itoa x.op), bs (Lib.itoa x.v)]
  else if x.kind = 8 then [bs (Lib.itoa x.a), bs (Lib.itoa x.i)]
  else if x.kind = 9 then [bs (Lib.itoa x.a), bs (Lib.itoa x.names)] ++ x.files.map pickWord
  else [bs (Lib.itoa x.a)]
/-- An act's words. -/
def wordsOf (x : Ac) : List ByteArray := kindName x.kind :: argsOf x

theorem words_calls {B : Nat} (v : Value) (x : Ac) (w : World) (hG : Glob B w) (hx : AcIn x) (hv : ActRow w (fun _ => True) v x) :
    Calls Tryz.prog 38 #[v] w fun e w' => WordsR w (wordsOf x) e w' := by
  obtain ⟨da, dcap, fa, fcap, rfl, hd, hf⟩ := hv
  obtain ⟨k, c, o, v, i, a, b, key, ck, g, data, nm, files⟩ := x
  obtain ⟨k0, k1, hc, ho, hvv, hi, ha, hb, hkey, hck, hnm, hdl, hfl⟩ := hx
  simp only at *
  rcases (show k = 0 ∨ k = 1 ∨ k = 2 ∨ k = 3 ∨ k = 4 ∨ k = 5 ∨ k = 6 ∨ k = 7 ∨ k = 8 ∨ k = 9 ∨ k = 10 ∨ k = 11 from by omega) with rfl | rfl | rfl | rfl | rfl | rfl | rfl | rfl | rfl | rfl | rfl | rfl
  · simp only [InK] at hkey hck
    by_cases h1 : o = 1
    · have := words_0p c o v i a b key ck g (.slice da data.length dcap) nm (.slice fa files.length fcap) w hG key.toNat ck.toNat hc hvv (by omega) (by omega) (by omega) (by omega) da dcap data rfl hd hdl h1
      simpa [wordsOf, argsOf, kindName, nameList, h1] using this
    · have := words_0n c o v i a b key ck g (.slice da data.length dcap) nm (.slice fa files.length fcap) w hG key.toNat ck.toNat hc hvv (by omega) (by omega) (by omega) (by omega) (beq_eq_false_iff_ne.2 h1)
      simpa [wordsOf, argsOf, kindName, nameList, h1] using this
  · exact words_1 c o v i a b key ck g _ nm _ w hG hc
  · exact words_2 c o v i a b key ck g _ nm _ w hG hi
  · exact words_3 c o v i a b key ck g _ nm _ w hG hi
  · exact words_4 c o v i a b key ck g _ nm _ w hG hi
  · exact words_5 c o v i a b key ck g _ nm _ w hG ha hb
  · exact words_6 c o v i a b key ck g _ nm _ w hG ha hb
  · exact words_7 c o v i a b key ck g _ nm _ w hG ha ho hvv
  · exact words_8 c o v i a b key ck g _ nm _ w hG ha hi
  · exact words_9 c o v i a b key ck g _ nm _ w hG ha hnm fa fcap files rfl hf hfl
  · exact words_10 c o v i a b key ck g _ nm _ w hG ha
  · exact words_11 c o v i a b key ck g _ nm _ w hG hc
end Go.Proofs.YtjipffbnndbchaaGreatDoor
