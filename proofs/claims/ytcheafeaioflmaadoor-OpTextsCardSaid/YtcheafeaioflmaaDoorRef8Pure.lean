/- The reference's reading of an operation's numbers. -/
import Derived.Test.YtcheafeaioflmaaDoorOprRead
namespace Go.Proofs.YtcheafeaioflmaaDoor
open Go Go.RowKit
set_option linter.unusedVariables false

def skip8 (l : List UInt8) : List UInt8 := l.dropWhile fun x => x != 32
theorem skip8_word (a r : List UInt8) (h : NoSp a) : skip8 (a ++ 32 :: r) = 32 :: r := by
  induction a with
  | nil => rfl
  | cons c a ih =>
    have hc : (c != 32) = true := by simpa using h c (by simp)
    unfold skip8 at ih ⊢
    rw [List.cons_append, List.dropWhile_cons_of_pos (p := fun x : UInt8 => x != 32) hc]
    exact ih (fun x hx => h x (by simp [hx]))
theorem skip8_step (L : List UInt8) (k : Nat) (h : k < L.length) (hn : L[k] ≠ 32) : skip8 (L.drop (k + 1)) = skip8 (L.drop k) := by
  rw [List.drop_eq_getElem_cons h]
  unfold skip8
  rw [List.dropWhile_cons_of_pos (p := fun x : UInt8 => x != 32) (by simpa using hn)]
theorem skip8_stop (L : List UInt8) (k : Nat) (h : k < L.length) (hn : L[k] = 32) : skip8 (L.drop k) = L.drop k := by
  rw [List.drop_eq_getElem_cons h]
  unfold skip8
  rw [List.dropWhile_cons_of_neg (p := fun x : UInt8 => x != 32) (by simp [hn])]
theorem skip8_end (L : List UInt8) (k : Nat) (h : L.length ≤ k) : skip8 (L.drop k) = L.drop k := by
  rw [List.drop_eq_nil_of_le h]
  rfl
/-- a number's digits: none, if it is no number or too great -/
def dig (c : Nat) (acc : Int) : List UInt8 → Option (Int × List UInt8)
  | [] => some (acc, [])
  | x :: r => if x = 32 then some (acc, x :: r) else if (x.toNat < 48 ∨ 57 < x.toNat) ∨ 18 < c then none else if 922337203685477580 < acc ∨ (acc = 922337203685477580 ∧ 55 < x.toNat) then none else dig (c + 1) (10 * acc + x.toNat - 48) r
/-- the numbers that are still to be read -/
def rest : Nat → List UInt8 → Option (List Int)
  | 0, _ => some []
  | k + 1, [] => some (List.replicate (k + 1) 0)
  | k + 1, _ :: r => (dig 0 0 r).bind fun p => (rest k p.2).map (p.1 :: ·)
def cont (m : Nat) (pre : List Int) (o : Option (Int × List UInt8)) : Option (List Int) := o.bind fun p => (rest (3 - m) p.2).map fun t => pre ++ p.1 :: t
theorem rest_nil (k : Nat) : rest k [] = some (List.replicate k 0) := by
  cases k <;> rfl
theorem rest_step (m : Nat) (pre : List Int) (x : UInt8) (r : List UInt8) (h : m < 4) : (rest (4 - m) (x :: r)).map (pre ++ ·) = cont m pre (dig 0 0 r) := by
  rw [show 4 - m = (3 - m) + 1 by omega]
  unfold rest cont
  cases dig 0 0 r with
  | none => rfl
  | some p => simp [Function.comp_def]
theorem cont_done (m : Nat) (pre : List Int) (acc : Int) (l : List UInt8) (h : m < 4) : cont m pre (some (acc, l)) = (rest (4 - (m + 1)) l).map ((pre ++ [acc]) ++ ·) := by
  unfold cont
  rw [show 4 - (m + 1) = 3 - m by omega]
  simp
theorem cont_none (m : Nat) (pre : List Int) : cont m pre none = none := rfl
theorem dig_step (L : List UInt8) (b c : Nat) (acc : Int) (h : b < L.length) (hn : L[b] ≠ 32) (h1 : 48 ≤ L[b].toNat ∧ L[b].toNat ≤ 57) (hc : c ≤ 18) (hb : ¬ (922337203685477580 < acc ∨ (acc = 922337203685477580 ∧ 55 < L[b].toNat))) :
    dig (c + 1) (10 * acc + L[b].toNat - 48) (L.drop (b + 1)) = dig c acc (L.drop b) := by
  rw [List.drop_eq_getElem_cons h]
  conv => rhs; unfold dig
  rw [if_neg hn, if_neg (by omega), if_neg hb]
theorem dig_bad (L : List UInt8) (b c : Nat) (acc : Int) (h : b < L.length) (hn : L[b] ≠ 32) (h1 : ((L[b].toNat < 48 ∨ 57 < L[b].toNat) ∨ 18 < c) ∨ (922337203685477580 < acc ∨ (acc = 922337203685477580 ∧ 55 < L[b].toNat))) : dig c acc (L.drop b) = none := by
  rw [List.drop_eq_getElem_cons h]
  unfold dig
  rw [if_neg hn]
  by_cases g : (L[b].toNat < 48 ∨ 57 < L[b].toNat) ∨ 18 < c
  · rw [if_pos g]
  · rw [if_neg g, if_pos (h1.resolve_left g)]
theorem dig_stop (L : List UInt8) (b c : Nat) (acc : Int) (h : b < L.length) (hn : L[b] = 32) : dig c acc (L.drop b) = some (acc, L.drop b) := by
  rw [List.drop_eq_getElem_cons h]
  unfold dig
  rw [if_pos hn]
theorem dig_end (L : List UInt8) (b c : Nat) (acc : Int) (h : L.length ≤ b) : dig c acc (L.drop b) = some (acc, L.drop b) := by
  rw [List.drop_eq_nil_of_le h]
  rfl
theorem dig_dec (l : List UInt8) : ∀ (c acc m : Nat) (r : List UInt8), Lib.decFrom acc l = some m → m < 9223372036854775808 → c + l.length ≤ 19 → (∀ x r', r = x :: r' → x = 32) → dig c acc (l ++ r) = some ((m : Int), r) := by
  induction l with
  | nil =>
    intro c acc m r h hm hc hr
    simp [Lib.decFrom] at h
    subst h
    rw [List.nil_append]
    cases r with
    | nil => rfl
    | cons x r' =>
      have := hr x r' rfl
      subst this
      unfold dig
      rw [if_pos rfl]
  | cons x l ih =>
    intro c acc m r h hm hc hr
    unfold Lib.decFrom at h
    cases hd : Lib.digitVal x with
    | none => rw [hd] at h; cases h
    | some d =>
      rw [hd] at h
      obtain ⟨h1, h2, h3⟩ := Lib.digitVal_eq hd
      have hg := decFrom_ge l _ _ h
      rw [List.length_cons] at hc
      rw [List.cons_append]
      unfold dig
      have hx : x ≠ 32 := fun e => by subst e; revert h1; decide
      rw [if_neg hx, if_neg (by omega), if_neg (by omega)]
      rw [show (10 * (acc : Int) + x.toNat - 48) = ((acc * 10 + d : Nat) : Int) by omega]
      exact ih _ _ _ _ h hm (by omega) hr
theorem nd8_le : ∀ k n : Nat, n < 10 ^ (k + 1) → Lib.nDigits n ≤ k + 1
  | 0, n, h => by rw [Lib.nDigits_small (by simpa using h)]; exact Nat.le_refl _
  | k + 1, n, h => by
    by_cases h10 : n < 10
    · rw [Lib.nDigits_small h10]; omega
    · rw [Lib.nDigits_big h10]
      have := nd8_le k (n / 10) (by rw [Nat.pow_succ] at h; omega)
      omega
theorem dig_num (n : Nat) (r : List UInt8) (h : n < 9223372036854775808) (hr : ∀ x r', r = x :: r' → x = 32) : dig 0 0 (Lib.decDigits n ++ r) = some ((n : Int), r) := by
  refine dig_dec _ 0 0 n r (dd_read n) h ?_ hr
  rw [Lib.decDigits_length]
  have := nd8_le 18 n (by omega)
  omega
theorem dig_bd (l : List UInt8) : ∀ (c : Nat) (acc : Int) (n : Int) (r : List UInt8), dig c acc l = some (n, r) → 0 ≤ acc → acc ≤ 9223372036854775807 → 0 ≤ n ∧ n ≤ 9223372036854775807 := by
  induction l with
  | nil =>
    intro c acc n r h h0 h1
    unfold dig at h
    injection h with h
    injection h with h _
    omega
  | cons x l ih =>
    intro c acc n r h h0 h1
    unfold dig at h
    split at h
    · injection h with h
      injection h with h _
      omega
    · split at h
      · cases h
      · split at h
        · cases h
        · exact ih _ _ _ _ h (by omega) (by omega)
theorem rest_bd : ∀ (k : Nat) (l : List UInt8) (v : List Int), rest k l = some v → v.length = k ∧ ∀ n ∈ v, 0 ≤ n ∧ n ≤ 9223372036854775807
  | 0, l, v, h => by
    unfold rest at h
    injection h with h
    subst h
    exact ⟨rfl, fun n hn => by cases hn⟩
  | k + 1, [], v, h => by
    rw [rest_nil] at h
    injection h with h
    subst h
    exact ⟨by simp, fun n hn => by have := (List.mem_replicate.1 hn).2; omega⟩
  | k + 1, x :: r, v, h => by
    unfold rest at h
    cases hd : dig 0 0 r with
    | none => rw [hd] at h; cases h
    | some p =>
      obtain ⟨n, l'⟩ := p
      rw [hd] at h
      simp only [Option.bind_some] at h
      cases hr : rest k l' with
      | none => rw [hr] at h; cases h
      | some t =>
        rw [hr] at h
        simp only [Option.map_some, Option.some.injEq] at h
        subst h
        obtain ⟨h1, h2⟩ := rest_bd k l' t hr
        have h3 := dig_bd r 0 0 n l' hd (by omega) (by omega)
        refine ⟨by simp [h1], fun y hy => ?_⟩
        rcases List.mem_cons.1 hy with rfl | hy
        · exact h3
        · exact h2 y hy
/-- the digits behind the word -/
def tailD (ns : List Int) : List UInt8 := ns.flatMap fun n => 32 :: Lib.decDigits n.toNat
theorem rest_tail : ∀ (ns : List Int) (j : Nat), (∀ n ∈ ns, 0 ≤ n ∧ n < 9223372036854775808) → rest (ns.length + j) (tailD ns) = some (ns ++ List.replicate j 0)
  | [], j, _ => by
    show rest (0 + j) [] = _
    rw [Nat.zero_add, rest_nil]
    rfl
  | n :: ns, j, h => by
    have hn := h n (by simp)
    have e : tailD (n :: ns) = 32 :: (Lib.decDigits n.toNat ++ tailD ns) := by simp [tailD]
    rw [e, show (n :: ns).length + j = (ns.length + j) + 1 by simp; omega]
    unfold rest
    rw [dig_num n.toNat (tailD ns) (by omega) (fun x r' hr => by
      cases ns with
      | nil => cases hr
      | cons a t =>
        have : tailD (a :: t) = 32 :: (Lib.decDigits a.toNat ++ tailD t) := by simp [tailD]
        rw [this] at hr
        injection hr with h1 _
        exact h1.symm)]
    simp only [Option.bind_some]
    rw [rest_tail ns j (fun m hm => h m (by simp [hm]))]
    simp
    omega
theorem joinSp_tail (a : List UInt8) : ∀ ns : List Int, joinSp (a :: ns.map fun n => Lib.decDigits n.toNat) = a ++ tailD ns
  | [] => by simp [joinSp, tailD]
  | n :: ns => by
    have ih := joinSp_tail (Lib.decDigits n.toNat) ns
    rw [List.map_cons]
    unfold joinSp
    rw [ih]
    simp [tailD]
def nums8 (x : Opr) : List Int := (List.range (fpart x.kind).size).map x.num
theorem otext_tail {x : Opr} (h : x.Good) : (otext x).data.toList = fnames.getD x.kind.toNat [] ++ tailD (nums8 x) := by
  rw [otext_bytes h, ← joinSp_tail]
  unfold oparts nums8
  rw [List.map_map]
  rfl
theorem skip8_text {x : Opr} (h : x.Good) : skip8 (otext x).data.toList = tailD (nums8 x) := by
  rw [otext_tail h]
  have hs := fpart_one _ h.k
  have hne : nums8 x ≠ [] := by
    intro e
    have h2 := congrArg List.length e
    rw [show (nums8 x).length = (fpart x.kind).size by simp [nums8]] at h2
    rw [h2] at hs
    exact absurd hs.1 (by decide)
  have hn : NoSp (fnames.getD x.kind.toNat []) := fnames_nosp _ (by have := h.k; omega)
  cases hx : nums8 x with
  | nil => exact absurd hx hne
  | cons n ns =>
    have e : tailD (n :: ns) = 32 :: (Lib.decDigits n.toNat ++ tailD ns) := by simp [tailD]
    rw [e]
    exact skip8_word _ _ hn
/-- what the reference reads out of an operation's text -/
theorem rest_text {x : Opr} (h : x.Right) : rest 4 (skip8 (otext x).data.toList) = some [x.a, x.b, x.c, 0] := by
  have hs := fpart_one _ h.good.k
  rw [skip8_text h.good]
  have hl : (nums8 x).length = (fpart x.kind).size := by simp [nums8]
  have hr := rest_tail (nums8 x) (4 - (fpart x.kind).size) (fun n hn => by
    obtain ⟨i, hi, rfl⟩ := List.mem_map.1 hn
    have := h.good.n i (List.mem_range.1 hi)
    have := Opr.num_bd h.fits i
    omega)
  rw [hl, show (fpart x.kind).size + (4 - (fpart x.kind).size) = 4 by omega] at hr
  rw [hr]
  congr 1
  have r1 := rp_not x 1 (by omega) h.good.k
  have r2 := rp_not x 2 (by omega) h.good.k
  have hp := h.plain
  have b1 : ¬ 1 < (fpart x.kind).size → x.b = 0 := fun g => by
    have := congrArg Opr.b hp
    unfold mask at this
    simp only [r1.2 g, if_true] at this
    exact this.symm
  have c1 : ¬ 2 < (fpart x.kind).size → x.c = 0 := fun g => by
    have := congrArg Opr.c hp
    unfold mask at this
    simp only [r2.2 g, if_true] at this
    exact this.symm
  unfold nums8
  generalize (fpart x.kind).size = z at *
  obtain rfl | rfl | rfl : z = 1 ∨ z = 2 ∨ z = 3 := by omega
  · rw [b1 (by omega), c1 (by omega)]; rfl
  · rw [c1 (by omega)]; rfl
  · rfl
def goal8 (s : ByteArray) : Option (List Int) := rest 4 (skip8 s.data.toList)
theorem goal8_none {s : ByteArray} (h : goal8 s = none) : oread s = (⟨0, 0, 0, 0⟩, 3) := oread_no fun x hx ht => by
  subst ht
  unfold goal8 at h
  rw [rest_text hx] at h
  cases h
theorem goal8_some {s : ByteArray} {a b c d : Int} (h : goal8 s = some [a, b, c, d]) : ONums s a b c := by
  have hb := (rest_bd _ _ _ h).2
  have ha := hb a (by simp)
  have hbb := hb b (by simp)
  have hc := hb c (by simp)
  refine ⟨⟨by omega, by omega, by omega⟩, fun x hx ht => ?_, fun hs => ?_⟩
  · subst ht
    unfold goal8 at h
    rw [rest_text hx] at h
    simp only [Option.some.injEq, List.cons.injEq, and_true] at h
    obtain ⟨rfl, rfl, rfl, _⟩ := h
    rfl
  · subst hs
    have : goal8 ⟨#[]⟩ = some [0, 0, 0, 0] := rfl
    rw [this] at h
    simp only [Option.some.injEq, List.cons.injEq, and_true] at h
    obtain ⟨rfl, rfl, rfl, _⟩ := h
    exact ⟨rfl, rfl, rfl⟩
theorem onums_plain {s : ByteArray} {a b c k : Int} (h : ONums s a b c) (hk : 1 ≤ k ∧ k ≤ 11) (ht : otext ⟨k, a, b, c⟩ = s) : mask ⟨k, a, b, c⟩ 0 = ⟨k, a, b, c⟩ :=
  h.yes _ (mask_right (onums_good h hk ht) (onums_fits h (by omega))) ((mask_text _ 0).trans ht)
/-! ### the array of numbers -/
theorem pad_set (m : Nat) (pre : List Int) (acc : Int) (h : m < 4) (hp : pre.length = m) : (pre ++ List.replicate (4 - m) 0).set m acc = (pre ++ [acc]) ++ List.replicate (4 - (m + 1)) 0 := by
  rw [List.set_append, if_neg (by omega), hp, Nat.sub_self, show 4 - m = (4 - (m + 1)) + 1 by omega, List.replicate_succ]
  simp
theorem pad_zero (m : Nat) (pre : List Int) (h : m < 4) (hp : pre.length = m) : (pre ++ List.replicate (4 - m) 0).set m 0 = pre ++ List.replicate (4 - m) 0 := by
  rw [pad_set m pre 0 h hp, show 4 - m = (4 - (m + 1)) + 1 by omega, List.replicate_succ]
  simp
theorem pad_get (m : Nat) (pre : List Int) (acc : Int) (h : m < 4) (hp : pre.length = m) : ((pre ++ List.replicate (4 - m) 0).set m acc).getD m 0 = acc := by
  rw [pad_set m pre acc h hp, List.append_assoc, List.getD_eq_getElem?_getD, List.getElem?_append_right (by omega), hp, Nat.sub_self]
  rfl
theorem opr_eql (W : World) (x y : Opr) : (binOp .eql 56 x.v y.v).run Tryd.prog W = .ok (.bool (decide (x = y))) W := by
  obtain ⟨a, b, e, f⟩ := x
  obtain ⟨a', b', e', f'⟩ := y
  simp [go_sem]
  repeat' split
  all_goals simp_all
end Go.Proofs.YtcheafeaioflmaaDoor
