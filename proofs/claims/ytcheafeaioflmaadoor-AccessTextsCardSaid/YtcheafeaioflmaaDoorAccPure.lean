/- Accesses as texts: what is right, its parts; unlike accesses have unlike texts. -/
import Derived.Test.YtcheafeaioflmaaDoorParts
import Derived.Test.YtcheafeaioflmaaDoorWordText
import Derived.Test.YtcheafeaioflmaaDoorAcc
import Derived.Test.YtcheafeaioflmaaDoorJoinSp
import Derived.Test.YtcheafeaioflmaaDoorNamesAny
namespace Go.Proofs.YtcheafeaioflmaaDoor
open Go Go.RowKit
set_option linter.unusedVariables false
set_option linter.unusedSimpArgs false

structure Acc.Fits (a : Acc) : Prop where
  k : -9223372036854775808 ≤ a.kind ∧ a.kind ≤ 9223372036854775807
  p : -9223372036854775808 ≤ a.at_ ∧ a.at_ ≤ 9223372036854775807
  x : 0 ≤ a.x ∧ a.x < 18446744073709551616
  y : 0 ≤ a.y ∧ a.y < 18446744073709551616
  o : 0 ≤ a.old ∧ a.old < 18446744073709551616
def accWords : List (List UInt8) := [[], [108, 111, 97, 100], [115, 116, 111, 114, 101], [99, 97, 115], [97, 100, 100]]
def accWord (k : Int) : ByteArray := ⟨(accWords.getD k.toNat []).toArray⟩
def wasB : ByteArray := ⟨#[119, 97, 115]⟩
def spB : ByteArray := ⟨#[32]⟩
def Acc.args (a : Acc) : List ByteArray := if a.kind = 1 then [] else if a.kind = 3 then [wtext a.x, wtext a.y] else [wtext a.x]
def Acc.texts (c : Cfg) (a : Acc) : List ByteArray := accWord a.kind :: c.name a.at_ :: (a.args ++ [wasB, wtext a.old])
def Acc.right (c : Cfg) (a : Acc) : Prop := c.name a.at_ ≠ ⟨#[]⟩ ∧ (a.kind = 1 ∧ a.x = 0 ∧ a.y = 0 ∨ (a.kind = 2 ∨ a.kind = 4) ∧ a.y = 0 ∨ a.kind = 3)
instance (c : Cfg) (a : Acc) : Decidable (a.right c) := by unfold Acc.right; exact inferInstance
def Acc.text (c : Cfg) (a : Acc) : ByteArray := if a.right c then ⟨(jbytes spB (a.texts c)).toArray⟩ else ⟨#[]⟩

def Acc.argsB (a : Acc) : List (List UInt8) := if a.kind = 1 then [] else if a.kind = 3 then [wbytes a.x, wbytes a.y] else [wbytes a.x]
def Acc.parts (c : Cfg) (a : Acc) : List (List UInt8) := accWords.getD a.kind.toNat [] :: ((c.spot a.at_).toks ++ (a.argsB ++ [[119, 97, 115], wbytes a.old]))
theorem acc_at {c : Cfg} {a : Acc} (h : a.right c) : c.ok = true ∧ 0 ≤ a.at_ ∧ a.at_ < c.words := by
  by_cases hi : 0 ≤ a.at_ ∧ a.at_ < c.words
  · exact ⟨Classical.byContradiction fun x => by rw [c.words_zero x] at hi; omega, hi⟩
  · exact absurd (c.name_not _ hi) h.1
theorem acc_kind {c : Cfg} {a : Acc} (h : a.right c) : 1 ≤ a.kind ∧ a.kind ≤ 4 := by
  rcases h.2 with h | h | h <;> omega
theorem acc_bytes {c : Cfg} {a : Acc} (h : a.right c) : (a.text c).data.toList = joinSp (a.parts c) := by
  obtain ⟨ok, hi⟩ := acc_at h
  have e1 : (c.name a.at_).data.toList = joinSp (c.spot a.at_).toks := by rw [c.name_in _ ok hi, name_toks]
  have e2 : (a.args ++ [wasB, wtext a.old]).map (fun s => s.data.toList) = a.argsB ++ [[119, 97, 115], wbytes a.old] := by
    unfold Acc.args Acc.argsB
    split
    · simp [wtext_bytes, wasB]
    · split <;> simp [wtext_bytes, wasB]
  unfold Acc.text
  rw [if_pos h, List.toList_toArray, show jbytes spB _ = jbytes ⟨#[32]⟩ _ from rfl, jbytes_sp]
  unfold Acc.texts Acc.parts
  rw [List.map_cons, List.map_cons, e2, e1, joinSp_cons _ _ (by simp), joinSp_nest _ _ (toks_ne _), joinSp_cons _ _ (by simp)]
  rfl
theorem nosp_w (a : Int) : NoSp (wbytes a) := by
  have hd := nosp_dd (a / 2).toNat
  rcases (show a % 2 = 0 ∨ a % 2 = 1 by omega) with h | h
  · rw [wbytes_even a h]; exact hd
  · obtain ⟨c, hc, e⟩ := wbytes_odd a h
    rw [e]
    intro x hx
    rcases List.mem_cons.1 hx with rfl | hx
    · rcases hc with rfl | rfl <;> decide
    · exact hd x hx
theorem acc_nosp {c : Cfg} {a : Acc} (h : a.right c) : ∀ t ∈ a.parts c, NoSp t := by
  obtain ⟨ok, hi⟩ := acc_at h
  have hk := acc_kind h
  have hw : ∀ j, j < 5 → ((accWords.getD j []).all fun x => decide (x ≠ 32)) = true := by decide
  intro t ht
  unfold Acc.parts at ht
  rcases List.mem_cons.1 ht with rfl | ht
  · intro x hx
    have := List.all_eq_true.1 (hw a.kind.toNat (by omega)) x hx
    simpa using this
  · rcases List.mem_append.1 ht with ht | ht
    · exact toks_nosp (c.spot_ok ok _ hi.1) t ht
    · rcases List.mem_append.1 ht with ht | ht
      · unfold Acc.argsB at ht
        split at ht
        · simp at ht
        · split at ht
          · simp at ht
            rcases ht with rfl | rfl <;> exact nosp_w _
          · simp at ht
            subst ht
            exact nosp_w _
      · simp at ht
        rcases ht with rfl | rfl
        · intro x hx; simp at hx; rcases hx with rfl | rfl | rfl <;> decide
        · exact nosp_w _
theorem wbytes_inj {a b : Int} (ha : 0 ≤ a ∧ a < 18446744073709551616) (hb : 0 ≤ b ∧ b < 18446744073709551616) (h : wbytes a = wbytes b) : a = b := by
  refine wtext_inj ha hb (bytes_ext ?_)
  rw [wtext_bytes, wtext_bytes, h]
theorem acc_inj {c : Cfg} {x y : Acc} (fx : x.Fits) (fy : y.Fits) (rx : x.right c) (ry : y.right c) (h : x.text c = y.text c) : x = y := by
  have e : x.parts c = y.parts c := by
    refine join_inj (by simp [Acc.parts]) (by simp [Acc.parts]) (acc_nosp rx) (acc_nosp ry) ?_
    rw [← acc_bytes rx, ← acc_bytes ry, h]
  obtain ⟨ok, ix⟩ := acc_at rx
  obtain ⟨_, iy⟩ := acc_at ry
  have kx := acc_kind rx
  have ky := acc_kind ry
  unfold Acc.parts at e
  obtain ⟨e0, e1⟩ := List.cons.inj e
  have hw : ∀ i, i < 5 → ∀ j, j < 5 → accWords.getD i [] = accWords.getD j [] → i = j := by decide
  have hk : x.kind = y.kind := by
    have := hw x.kind.toNat (by omega) y.kind.toNat (by omega) e0
    omega
  obtain ⟨t1, r1, g1, l1⟩ := toks_len (c.spot_ok ok _ ix.1)
  obtain ⟨t2, r2, g2, l2⟩ := toks_len (c.spot_ok ok _ iy.1)
  have ht : t1 = t2 := by
    rw [g1, g2, List.cons_append, List.cons_append] at e1
    exact (List.cons.inj e1).1
  obtain ⟨e2, e3⟩ := List.append_inj e1 (by rw [l1, l2, ht])
  have hp : x.at_ = y.at_ := c.spot_inj ok ix.1 iy.1 (toks_inj (c.spot_ok ok _ ix.1) (c.spot_ok ok _ iy.1) e2)
  unfold Acc.argsB at e3
  rw [← hk] at e3
  have q1 := rx.2
  have q2 := ry.2
  obtain ⟨xk, xp, xx, xy, xo⟩ := x
  obtain ⟨yk, yp, yx, yy, yo⟩ := y
  simp only at hk hp e3 q1 q2
  subst hk hp
  by_cases h1 : xk = 1
  · rw [if_pos h1, if_pos h1] at e3
    simp at e3
    have := wbytes_inj fx.o fy.o e3
    simp only at this
    have hx : xx = yx := by omega
    have hy : xy = yy := by omega
    rw [this, hx, hy]
  · by_cases h3 : xk = 3
    · rw [if_neg h1, if_neg h1, if_pos h3, if_pos h3] at e3
      simp at e3
      have z1 := wbytes_inj fx.x fy.x e3.1
      have z2 := wbytes_inj fx.y fy.y e3.2.1
      have z3 := wbytes_inj fx.o fy.o e3.2.2
      simp only at z1 z2 z3
      rw [z1, z2, z3]
    · rw [if_neg h1, if_neg h1, if_neg h3, if_neg h3] at e3
      simp at e3
      have z1 := wbytes_inj fx.x fy.x e3.1
      have z3 := wbytes_inj fx.o fy.o e3.2
      simp only at z1 z3
      have hy : xy = yy := by omega
      rw [z1, hy, z3]
theorem acc_text_ne {c : Cfg} {a : Acc} (h : a.right c) : a.text c ≠ ⟨#[]⟩ := by
  intro e
  have := acc_bytes h
  rw [e] at this
  unfold Acc.parts at this
  rw [joinSp_cons _ _ (by simp)] at this
  have l := congrArg List.length this
  simp at l
theorem acc_text_not {c : Cfg} {a : Acc} (h : ¬ a.right c) : a.text c = ⟨#[]⟩ := by unfold Acc.text; rw [if_neg h]
theorem getD_len {l : List (List UInt8)} {n : Nat} (h : ∀ x ∈ l, x.length ≤ n) (j : Nat) : (l.getD j []).length ≤ n := by
  rw [List.getD_eq_getElem?_getD]
  cases e : l[j]? with
  | none => simp
  | some x => exact h x (List.mem_of_getElem? e)
theorem dd_len (n : Nat) (h : n < 18446744073709551616) : (Lib.decDigits n).length ≤ 20 := by
  have := (dec_size n h).2
  unfold dec at this
  rw [← bytes_len] at this
  simpa using this
theorem acc_name_size {c : Cfg} {a : Acc} (h : a.right c) : (c.name a.at_).size ≤ 1000 := by
  obtain ⟨ok, hi⟩ := acc_at h
  have hb := c.bounds ok
  have hw := c.words_b3 ok
  have ho := c.ok_iff.1 ok
  have hs := spot_bd c ok a.at_ hi.1 (by omega)
  rw [← bytes_len, c.name_in _ ok hi, name_toks]
  have h1 := getD_len (l := onceNames) (n := 10) (by decide) (c.spot a.at_).a.toNat
  have h2 := getD_len (l := kindNames) (n := 10) (by decide) (c.spot a.at_).kind.toNat
  have h4 := getD_len (l := kindNames) (n := 10) (by decide) 3
  have h3 := dd_len (c.spot a.at_).a.toNat (by omega)
  have h5 := dd_len (c.spot a.at_).b.toNat (by omega)
  unfold Spot.toks
  split
  · simp only [joinSp, List.length_append, List.length_cons, List.length_nil]; omega
  · split
    · simp only [joinSp, List.length_append, List.length_cons, List.length_nil]; omega
    · simp only [joinSp, List.length_append, List.length_cons, List.length_nil]; omega
theorem awt_size (a : Int) (h0 : 0 ≤ a) (h1 : a < 18446744073709551616) : (wtext a).size ≤ 21 := by
  obtain ⟨hd1, hd2⟩ := dec_size (a / 2).toNat (by omega)
  unfold wtext
  split
  · rw [ByteArray.size_append]
    have : (wpre a).size ≤ 1 := by unfold wpre; split <;> (try split) <;> decide
    omega
  · omega
end Go.Proofs.YtcheafeaioflmaaDoor
