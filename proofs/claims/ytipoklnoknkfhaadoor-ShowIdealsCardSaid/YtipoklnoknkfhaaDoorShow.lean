/- show: words are written as Lisp writes them. -/
import Derived.Test.YtipoklnoknkfhaaDoorShowPure
import Derived.Test.YtipoklnoknkfhaaDoorShowBuf
import Derived.Test.YtipoklnoknkfhaaDoorWordAll
namespace Go.Proofs.YtipoklnoknkfhaaDoor
open Go Go.RowKit
set_option linter.unusedSimpArgs false
set_option linter.unusedVariables false

/-- what a source of pairs answers of a word -/
def pairV (p : Prs) (x : Int) : Value := if p.is x = true then .tuple #[.int .u64 (p.car (x / 2).toNat), .int .u64 (p.cdr (x / 2).toNat), .bool true] else .tuple #[.int .u64 0, .int .u64 0, .bool false]
/-- a source of pairs that stands below B -/
def SrcIs (B : Nat) (w : World) (src : Value) (p : Prs) : Prop := ∃ ty v g r, src = .iface ty v ∧ (∀ W, (method 374 ty v "mudlark/show.pair").run Tryd.prog W = .ok (g, r) W) ∧ (∀ args W, (callFunc g args).run Tryd.prog W = .ok (.enter g args) W) ∧
  ∀ W x, Below B w W → wok x → Calls Tryd.prog g #[r, .int .u64 x] W fun e W' => e = .returned (pairV p x) ∧ Below W.heap.size W W'
theorem app_nil (a : ByteArray) : a ++ (⟨#[]⟩ : ByteArray) = a := by
  apply ByteArray.ext
  simp
theorem strCells_app (a b : ByteArray) : Lib.strCells (a ++ b) = Lib.strCells a ++ Lib.strCells b := by
  unfold Lib.strCells
  simp
theorem SrcIs.below {B : Nat} {w w' : World} {src : Value} {p : Prs} (h : SrcIs B w src p) (hb : Below B w w') : SrcIs B w' src p := by
  obtain ⟨ty, v, g, r, e, hm, he, hg⟩ := h
  exact ⟨ty, v, g, r, e, hm, he, fun W x hW hx => hg W x (hb.trans hW) hx⟩
theorem IsWr.belowK {B b : Nat} {src : Value} {bs : List Value} {left : Int} {w w' : World} (h : IsWr B b src bs left w) (hb : Below w.heap.size w w') : IsWr B b src bs left w' := by
  obtain ⟨p, v, hp, h⟩ := h
  exact ⟨p, v, hp, h.belowK hb⟩
theorem IsWr.less {B b : Nat} {src : Value} {bs : List Value} {left : Int} {w : World} (h : IsWr B b src bs left w) (l' : Int) : IsWr B b src bs l' (w.setCell ⟨b, 3, none⟩ (.int .i64 l')) := by
  obtain ⟨p, v, hp, h⟩ := h
  exact ⟨p, v, hp, h.less l'⟩
theorem IsWr.le {B b : Nat} {src : Value} {bs : List Value} {left : Int} {w : World} (h : IsWr B b src bs left w) : B ≤ b ∧ b < w.heap.size := by
  obtain ⟨p, v, hp, h⟩ := h
  exact ⟨h.1, h.lt⟩
theorem IsWr.c0 {B b : Nat} {src : Value} {bs : List Value} {left : Int} {w : World} (h : IsWr B b src bs left w) : w.cell? ⟨b, 0, none⟩ = some src := by
  obtain ⟨p, v, hp, h⟩ := h
  exact h.c0
theorem IsWr.c3 {B b : Nat} {src : Value} {bs : List Value} {left : Int} {w : World} (h : IsWr B b src bs left w) : w.cell? ⟨b, 3, none⟩ = some (.int .i64 left) := by
  obtain ⟨p, v, hp, h⟩ := h
  exact h.c3
theorem IsWr.f3 {B b : Nat} {src : Value} {bs : List Value} {left : Int} {w : World} (h : IsWr B b src bs left w) : w.frozen? ⟨b, 3, none⟩ = false := by
  obtain ⟨p, v, hp, h⟩ := h
  exact h.frozen 3
/-- what a call that writes on leaves -/
def Wrote (B b : Nat) (src : Value) (w : World) (s : ByteArray) (l : Nat) (e : Ending) (w' : World) : Prop := e = .returned (.tuple #[]) ∧ IsWr B b src (Lib.strCells s) l w' ∧ Below B w w'
def ItemC (k : Nat) : Prop := ∀ (B b : Nat) (src : Value) (p : Prs) (s : ByteArray) (l : Nat) (x : Int) (w : World), p.fits → l < k → l ≤ 1000 → wok x → B ≤ w.heap.size → (∀ W, Below B w W → Tens W) → IsWr B b src (Lib.strCells s) l w → SrcIs B w src p → s.size + 50 * l ≤ 200000 →
  Calls Tryd.prog 88 #[.pointer (some ⟨b, 0, none⟩), .int .u64 x] w (Wrote B b src w (s ++ (wW p k false x l).1) (wW p k false x l).2)
def RestC (k : Nat) : Prop := ∀ (B b : Nat) (src : Value) (p : Prs) (s : ByteArray) (l : Nat) (x : Int) (w : World), p.fits → l < k → l ≤ 1000 → wok x → B ≤ w.heap.size → (∀ W, Below B w W → Tens W) → IsWr B b src (Lib.strCells s) l w → SrcIs B w src p → s.size + 50 * l ≤ 200000 →
  Calls Tryd.prog 123 #[.pointer (some ⟨b, 0, none⟩), .int .u64 x] w (Wrote B b src w (s ++ (wW p k true x l).1) (wW p k true x l).2)
set_option maxHeartbeats 4000000 in
set_option maxRecDepth 100000 in
theorem item_step (k : Nat) (hI : ItemC k) (hR : RestC k) : ItemC (k + 1) := by
  intro B b src p s l x w hp hlk hl hx hB ht hw hs hsz
  have HX := Lib.hid hx
  have HT := Lib.hid ht
  have HS := Lib.hid hs
  have HP := Lib.hid hp
  have HI := Lib.hid hI
  have HR := Lib.hid hR
  have HBb := hw.le
  obtain ⟨ty, v, g, r, rfl, hm, he, hg⟩ := hs
  have HG := Lib.hid (hg w x (Below.refl _ _) hx)
  have HW := Lib.hid hw
  have c0 := hw.c0
  clear hg hx ht hw hp hI hR
  by_cases hc : p.is x = true
  case neg =>
    have HE : Hid (wW p (k + 1) false x l = (wtext x, l)) := by unfold Hid; rw [wW, if_neg hc]
    have HPV : Hid (pairV p x = .tuple #[.int .u64 0, .int .u64 0, .bool false]) := by unfold Hid pairV; rw [if_neg hc]
    have hts := wtext_size x HX.out
    rw [HE.out]
    clear hc
    go_enter Tryd.func88, Tryd.ntmps88
    go_wp2_with fail
    refine HG.out.mono ?_
    rintro e w1 ⟨rfl, hb1⟩
    rw [HPV.out]
    have HB1 : Hid (Below B w w1) := hb1.mono hB
    have HW1 := Lib.hid (HW.out.belowK hb1)
    have hz1 := hb1.size
    clear hb1
    go_wp2_with fail
    go_region_with (first
      | (go_at_call 121; refine (text_any _ x HX.out.1 HX.out.2 (HT.out _ HB1.out.drew)).mono ?_; rintro e w2 ⟨rfl, hb2⟩; have HB2 : Hid (Below B w w2) := HB1.out.drew.trans (hb2.mono (by have := hz1; simp; omega)); have HW2 := Lib.hid ((HW1.out.belowK (Below.refl _ _).drew).belowK hb2); have hz2 := HB2.out.size; clear hb2)
      | (go_at_call 120; refine (wWriteString B b _ _ _ (wtext x) _ HW2.out (by rw [Lib.strCells_length]; omega) (by omega)).mono ?_; rintro e w3 ⟨rfl, hw3, hb3⟩; have HW3 := Lib.hid hw3; have HB3 : Hid (Below B w w3) := HB2.out.trans hb3; clear hw3 hb3))
    all_goals
      go_wp2_with fail
      go_end0
      exact ⟨rfl, by rw [strCells_app]; exact HW3.out, HB3.out⟩
  case pos =>
    have HPV : Hid (pairV p x = .tuple #[.int .u64 (p.car (x / 2).toNat), .int .u64 (p.cdr (x / 2).toNat), .bool true]) := by unfold Hid pairV; rw [if_pos hc]
    have hi : (x / 2).toNat < p.n := by
      obtain ⟨c1, c2⟩ := of_decide_eq_true hc
      have := HX.out.1
      omega
    have HCA := Lib.hid (HP.out.2 _ hi).1
    have HCD := Lib.hid (HP.out.2 _ hi).2
    by_cases hl0 : l = 0
    · have HE : Hid (wW p (k + 1) false x l = (dots, 0)) := by unfold Hid; rw [wW, if_pos hc, if_pos hl0]
      have HL0 := Lib.hid hl0
      rw [HE.out]
      clear hc hi hl0
      have tl : ((l : Int) == 0) = true := by have := HL0.out; simp; omega
      go_enter Tryd.func88, Tryd.ntmps88
      go_wp2_with fail
      refine HG.out.mono ?_
      rintro e w1 ⟨rfl, hb1⟩
      rw [HPV.out]
      have HB1 : Hid (Below B w w1) := hb1.mono hB
      have HW1 := Lib.hid (HW.out.belowK hb1)
      have hz1 := hb1.size
      have c3 := HW1.out.c3
      clear hb1
      go_wp2_with fail
      refine (wWriteString B b _ _ _ dots w1 HW1.out (by rw [Lib.strCells_length]; show _ + 2 ≤ _; omega) (by omega)).mono ?_
      rintro e w3 ⟨rfl, hw3, hb3⟩
      have HW3 := Lib.hid hw3
      have HB3 : Hid (Below B w w3) := HB1.out.trans hb3
      clear hw3 hb3
      go_wp2_with fail
      go_end0
      exact ⟨rfl, by rw [strCells_app]; have h := HW3.out; rw [HL0.out] at h; exact h, HB3.out⟩
    · obtain ⟨m, hm9⟩ : ∃ m, l = m + 1 := ⟨l - 1, by omega⟩
      have HE : Hid (wW p (k + 1) false x l = (lpar ++ (wW p k false (p.car (x / 2).toNat) m).1 ++ (wW p k true (p.cdr (x / 2).toNat) (wW p k false (p.car (x / 2).toNat) m).2).1 ++ rpar, (wW p k true (p.cdr (x / 2).toNat) (wW p k false (p.car (x / 2).toNat) m).2).2)) := by
        unfold Hid
        rw [wW, if_pos hc, if_neg hl0, hm9, Nat.add_sub_cancel]
      have HM := Lib.hid hm9
      rw [HE.out]
      have hs1 := wW_size p HP.out k false (p.car (x / 2).toNat) m HCA.out
      have hl1 := wW_left p k false (p.car (x / 2).toNat) m
      have hs2 := wW_size p HP.out k true (p.cdr (x / 2).toNat) (wW p k false (p.car (x / 2).toNat) m).2 HCD.out
      have hl2 := wW_left p k true (p.cdr (x / 2).toNat) (wW p k false (p.car (x / 2).toNat) m).2
      have HII := HI.out B b (.iface ty v) p (s ++ lpar) m (p.car (x / 2).toNat)
      have HRR := fun s => HR.out B b (.iface ty v) p s (wW p k false (p.car (x / 2).toNat) m).2 (p.cdr (x / 2).toNat)
      obtain ⟨A, hA⟩ : ∃ A, A = wW p k false (p.car (x / 2).toNat) m := ⟨_, rfl⟩
      rw [← hA] at hs1 hl1 hs2 hl2 HII HRR ⊢
      obtain ⟨R, hR9⟩ : ∃ R, R = wW p k true (p.cdr (x / 2).toNat) A.2 := ⟨_, rfl⟩
      rw [← hR9] at hs2 hl2 HRR ⊢
      obtain ⟨a1, a2⟩ := A
      obtain ⟨r1, r2⟩ := R
      simp only at hs1 hl1 hs2 hl2 HII HRR ⊢
      have HI2 := Lib.hid HII
      have HR2 := Lib.hid HRR
      have tl : ((l : Int) == 0) = false := by simp; omega
      have sl : IntKind.i64.wrap ((l : Int) - 1) = (m : Int) := by rw [IntWalk.i64_in _ (by omega)]; omega
      have hm1 : m < k := by omega
      have hml : m + 1 ≤ l := by omega
      clear hc hi hl0 hm9 HII HRR hA hR9 HE
      go_enter Tryd.func88, Tryd.ntmps88
      go_wp2_with fail
      refine HG.out.mono ?_
      rintro e w1 ⟨rfl, hb1⟩
      rw [HPV.out]
      have HB1 : Hid (Below B w w1) := hb1.mono hB
      have HW1 := Lib.hid (HW.out.belowK hb1)
      have hz1 := hb1.size
      have c3 := HW1.out.c3
      have f3 := HW1.out.f3
      clear hb1
      go_wp2_with fail
      have HL4 := Lib.hid (HW1.out.less (m : Int))
      have hz4 : (w1.setCell ⟨b, 3, none⟩ (.int .i64 (m : Int))).heap.size = w1.heap.size := by simp [World.setCell]
      have HB4 : Hid (Below B w (w1.setCell ⟨b, 3, none⟩ (.int .i64 (m : Int)))) := HB1.out.setCell (p := ⟨b, 3, none⟩) HBb.1 _
      refine (wWriteByte B b _ _ _ 40 _ HL4.out (by rw [Lib.strCells_length]; omega) (by omega)).mono ?_
      rintro e w5 ⟨rfl, hw5, hb5⟩
      have HW5 : Hid (IsWr B b (.iface ty v) (Lib.strCells (s ++ lpar)) (m : Int) w5) := by rw [strCells_app]; exact hw5
      have HB5 : Hid (Below B w w5) := HB4.out.trans hb5
      clear hw5 hb5 HB4 HL4 HB1 HW1 c3 f3 hz4
      go_wp2_with fail
      refine (HI2.out w5 HP.out hm1 (by omega) HCA.out (by have := HB5.out.size; omega) (fun W hW => HT.out W (HB5.out.trans hW)) HW5.out (HS.out.below HB5.out) (by rw [ByteArray.size_append]; show s.size + 1 + _ ≤ _; omega)).mono ?_
      rintro e w6 ⟨rfl, hw6, hb6⟩
      have HW6 := Lib.hid hw6
      have HB6 : Hid (Below B w w6) := HB5.out.trans hb6
      clear hw6 hb6
      go_wp2_with fail
      refine (HR2.out (s ++ lpar ++ a1) w6 HP.out (by omega) (by omega) HCD.out (by have := HB6.out.size; omega) (fun W hW => HT.out W (HB6.out.trans hW)) HW6.out (HS.out.below HB6.out) (by rw [ByteArray.size_append, ByteArray.size_append]; show s.size + 1 + _ + _ ≤ _; omega)).mono ?_
      rintro e w7 ⟨rfl, hw7, hb7⟩
      have HW7 := Lib.hid hw7
      have HB7 : Hid (Below B w w7) := HB6.out.trans hb7
      clear hw7 hb7
      go_wp2_with fail
      refine (wWriteByte B b _ _ _ 41 _ HW7.out (by rw [Lib.strCells_length, ByteArray.size_append, ByteArray.size_append, ByteArray.size_append]; show s.size + 1 + _ + _ + _ ≤ _; omega) (by have := HB7.out.size; omega)).mono ?_
      rintro e w8 ⟨rfl, hw8, hb8⟩
      have HW8 : Hid (IsWr B b (.iface ty v) (Lib.strCells (s ++ (lpar ++ a1 ++ r1 ++ rpar))) (r2 : Int) w8) := by
        have h : IsWr B b (.iface ty v) (Lib.strCells (s ++ lpar ++ a1 ++ r1) ++ Lib.strCells rpar) (r2 : Int) w8 := hw8
        rw [← strCells_app] at h
        unfold Hid
        simpa [ByteArray.append_assoc] using h
      have HB8 : Hid (Below B w w8) := HB7.out.trans hb8
      clear hw8 hb8
      go_wp2_with fail
      go_end0
      exact ⟨rfl, HW8.out, HB8.out⟩
def leftN (b : Nat) (w : World) : Nat := match w.cell? ⟨b, 3, none⟩ with
  | some (.int _ n) => n.toNat
  | _ => 0
theorem leftN_of {B b : Nat} {src : Value} {bs : List Value} {l : Nat} {w : World} (h : IsWr B b src bs (l : Int) w) : leftN b w = l := by
  unfold leftN
  rw [h.c3]
  simp
theorem rest_0 (p : Prs) {j : Nat} (hj : 0 < j) (l : Nat) : wW p j true 0 l = (⟨#[]⟩, l) := by
  obtain ⟨m, rfl⟩ : ∃ m, j = m + 1 := ⟨j - 1, by omega⟩
  rw [wW, if_pos rfl]
theorem rest_no (p : Prs) {j : Nat} (hj : 0 < j) {x : Int} (hx : ¬ x = 0) (hc : ¬ p.is x = true) (l : Nat) : wW p j true x l = (sspc ++ (dsp ++ wtext x), l) := by
  obtain ⟨m, rfl⟩ : ∃ m, j = m + 1 := ⟨j - 1, by omega⟩
  rw [wW, if_neg hx, if_neg hc]
theorem rest_dots (p : Prs) {j : Nat} (hj : 0 < j) {x : Int} (hx : ¬ x = 0) (hc : p.is x = true) : wW p j true x 0 = (sspc ++ dots, 0) := by
  obtain ⟨m, rfl⟩ : ∃ m, j = m + 1 := ⟨j - 1, by omega⟩
  rw [wW, if_neg hx, if_pos hc, if_pos rfl]
theorem rest_on (p : Prs) (j : Nat) {x : Int} (hx : ¬ x = 0) (hc : p.is x = true) (l : Nat) : wW p (j + 1) true x (l + 1) = (sspc ++ (wW p j false (p.car (x / 2).toNat) l).1 ++ (wW p j true (p.cdr (x / 2).toNat) (wW p j false (p.car (x / 2).toNat) l).2).1, (wW p j true (p.cdr (x / 2).toNat) (wW p j false (p.car (x / 2).toNat) l).2).2) := by
  rw [wW, if_neg hx, if_pos hc, if_neg (by omega), Nat.add_sub_cancel]
set_option maxHeartbeats 4000000 in
set_option maxRecDepth 100000 in
theorem rest_step (k : Nat) (hI : ∀ j, j < k → ItemC j) : RestC k := by
  intro B b src p s l x w hp hlk hl hx hB ht hw hs hsz
  have HT := Lib.hid ht
  have HS := Lib.hid hs
  have HP := Lib.hid hp
  have HI := Lib.hid hI
  have HBb := hw.le
  obtain ⟨ty, v, g, r, rfl, hm, he, hg⟩ := hs
  have HG := Lib.hid hg
  have HW := Lib.hid hw
  have HX := Lib.hid hx
  clear hg ht hw hp hI hx
  go_enter Tryd.func123, Tryd.ntmps123
  go_wp2_with fail
  go_loopw [1, 4, 5, 6] (fun vx _ _ _ wr => ∃ (x' : Int) (j l' : Nat) (s' : ByteArray), vx = .int .u64 x' ∧ Hid (wok x') ∧ l' < j ∧ j ≤ k ∧ l' ≤ l ∧ Hid (IsWr B b (.iface ty v) (Lib.strCells s') l' wr) ∧ Hid (Below B w wr) ∧ Hid (s' ++ (wW p j true x' l').1 = s ++ (wW p k true x l).1 ∧ (wW p j true x' l').2 = (wW p k true x l).2) ∧ s'.size + 50 * l' ≤ 200000) (fun _ _ _ _ wr => leftN b wr)
  case atStart => exact ⟨x, k, l, s, rfl, HX, hlk, Nat.le_refl _, Nat.le_refl _, HW, Below.refl _ _, ⟨rfl, rfl⟩, hsz⟩
  case round =>
    obtain ⟨x', j, l', s', rfl, HX', hj, hjk, hll, HWr, HBr, HE, hsz'⟩ := hrel
    by_cases hx0 : x' = 0
    · have t0 : (x' != 0) = false := by simpa using hx0
      have HEE : Hid (s' = s ++ (wW p k true x l).1 ∧ l' = (wW p k true x l).2) := by
        have h := HE.out
        rw [hx0, rest_0 p (by omega)] at h
        exact ⟨by rw [← h.1]; exact (app_nil _).symm, h.2⟩
      clear hx0
      go_wp2_with fail
      go_end0
      exact ⟨rfl, by rw [← HEE.out.1, ← HEE.out.2]; exact HWr.out, HBr.out⟩
    have t0 : (x' != 0) = true := by simpa using hx0
    have HGr := Lib.hid (HG.out wr x' HBr.out HX'.out)
    have c0 := HWr.out.c0
    have hzr := HBr.out.size
    by_cases hc : p.is x' = true
    case neg =>
      have HPV : Hid (pairV p x' = .tuple #[.int .u64 0, .int .u64 0, .bool false]) := by unfold Hid pairV; rw [if_neg hc]
      have HEE : Hid (s' ++ (sspc ++ (dsp ++ wtext x')) = s ++ (wW p k true x l).1 ∧ l' = (wW p k true x l).2) := by
        have h := HE.out
        rw [rest_no p (by omega) hx0 hc] at h
        exact h
      have hts := wtext_size x' HX'.out
      have hts2 : ¬ 9223372036854775807 < 2 + (wtext x').size := by omega
      clear hx0 hc
      go_wp2_with fail
      refine HGr.out.mono ?_
      rintro e w1 ⟨rfl, hb1⟩
      rw [HPV.out]
      have HB1 : Hid (Below B w w1) := HBr.out.trans (hb1.mono (by omega))
      have HW1 := Lib.hid (HWr.out.belowK hb1)
      have hz1 := HB1.out.size
      clear hb1
      go_wp2_with fail
      refine (wWriteByte B b _ _ _ 32 _ HW1.out (by rw [Lib.strCells_length]; omega) (by omega)).mono ?_
      rintro e w2 ⟨rfl, hw2, hb2⟩
      have HW2 : Hid (IsWr B b (.iface ty v) (Lib.strCells (s' ++ sspc)) (l' : Int) w2) := by rw [strCells_app]; exact hw2
      have HB2 : Hid (Below B w w2) := HB1.out.trans hb2
      have hz2 := HB2.out.size
      clear hw2 hb2
      go_wp2_with fail
      go_region_with (first
        | (go_at_call 121; refine (text_any _ x' HX'.out.1 HX'.out.2 (HT.out _ HB2.out.drew)).mono ?_; rintro e w3 ⟨rfl, hb3⟩; have HB3 : Hid (Below B w w3) := HB2.out.drew.trans (hb3.mono (by simp; omega)); have HW3 := Lib.hid ((HW2.out.belowK (Below.refl _ _).drew).belowK hb3); have hz3 := HB3.out.size; clear hb3)
        | (go_at_call 120; refine (wWriteString B b _ _ _ (dsp ++ wtext x') _ HW3.out (by rw [Lib.strCells_length, ByteArray.size_append, ByteArray.size_append]; show s'.size + 1 + (2 + _) ≤ _; omega) (by omega)).mono ?_; rintro e w4 ⟨rfl, hw4, hb4⟩; have HW4 := Lib.hid hw4; have HB4 : Hid (Below B w w4) := HB3.out.trans hb4; clear hw4 hb4))
      all_goals
        go_wp2_with fail
        go_end0
        refine ⟨rfl, ?_, HB4.out⟩
        have h := HW4.out
        rw [← strCells_app, ByteArray.append_assoc] at h
        rw [← HEE.out.1, ← HEE.out.2]
        exact h
    case pos =>
      have HPV : Hid (pairV p x' = .tuple #[.int .u64 (p.car (x' / 2).toNat), .int .u64 (p.cdr (x' / 2).toNat), .bool true]) := by unfold Hid pairV; rw [if_pos hc]
      have hi : (x' / 2).toNat < p.n := by
        obtain ⟨c1, c2⟩ := of_decide_eq_true hc
        have := HX'.out.1
        omega
      have HCA := Lib.hid (HP.out.2 _ hi).1
      have HCD := Lib.hid (HP.out.2 _ hi).2
      by_cases hl0 : l' = 0
      · have HEE : Hid (s' ++ (sspc ++ dots) = s ++ (wW p k true x l).1 ∧ 0 = (wW p k true x l).2) := by
          have h := HE.out
          rw [hl0, rest_dots p (by omega) hx0 hc] at h
          exact h
        have HL0 := Lib.hid hl0
        have tl : ((l' : Int) == 0) = true := by simp; omega
        clear hx0 hc hi hl0
        go_wp2_with fail
        refine HGr.out.mono ?_
        rintro e w1 ⟨rfl, hb1⟩
        rw [HPV.out]
        have HB1 : Hid (Below B w w1) := HBr.out.trans (hb1.mono (by omega))
        have HW1 := Lib.hid (HWr.out.belowK hb1)
        have hz1 := HB1.out.size
        clear hb1
        go_wp2_with fail
        refine (wWriteByte B b _ _ _ 32 _ HW1.out (by rw [Lib.strCells_length]; omega) (by omega)).mono ?_
        rintro e w2 ⟨rfl, hw2, hb2⟩
        have HW2 : Hid (IsWr B b (.iface ty v) (Lib.strCells (s' ++ sspc)) (l' : Int) w2) := by rw [strCells_app]; exact hw2
        have HB2 : Hid (Below B w w2) := HB1.out.trans hb2
        have hz2 := HB2.out.size
        have c3 := HW2.out.c3
        clear hw2 hb2
        go_wp2_with fail
        refine (wWriteString B b _ _ _ dots _ HW2.out (by rw [Lib.strCells_length, ByteArray.size_append]; show s'.size + 1 + 2 ≤ _; omega) (by omega)).mono ?_
        rintro e w4 ⟨rfl, hw4, hb4⟩
        have HW4 := Lib.hid hw4
        have HB4 : Hid (Below B w w4) := HB2.out.trans hb4
        clear hw4 hb4
        go_wp2_with fail
        go_end0
        refine ⟨rfl, ?_, HB4.out⟩
        have h := HW4.out
        rw [← strCells_app, ByteArray.append_assoc, HL0.out] at h
        rw [← HEE.out.1, ← HEE.out.2]
        exact h
      · obtain ⟨m, hm9⟩ : ∃ m, l' = m + 1 := ⟨l' - 1, by omega⟩
        obtain ⟨i, hi9⟩ : ∃ i, j = i + 1 := ⟨j - 1, by omega⟩
        have HEE : Hid (s' ++ sspc ++ (wW p i false (p.car (x' / 2).toNat) m).1 ++ (wW p i true (p.cdr (x' / 2).toNat) (wW p i false (p.car (x' / 2).toNat) m).2).1 = s ++ (wW p k true x l).1 ∧ (wW p i true (p.cdr (x' / 2).toNat) (wW p i false (p.car (x' / 2).toNat) m).2).2 = (wW p k true x l).2) := by
          have h := HE.out
          rw [hm9, hi9, rest_on p i hx0 hc] at h
          refine ⟨?_, h.2⟩
          rw [← h.1]
          simp [ByteArray.append_assoc]
        have hs1 := wW_size p HP.out i false (p.car (x' / 2).toNat) m HCA.out
        have hl1 := wW_left p i false (p.car (x' / 2).toNat) m
        have HII := HI.out i (by omega) B b (.iface ty v) p (s' ++ sspc) m (p.car (x' / 2).toNat)
        obtain ⟨A, hA⟩ : ∃ A, A = wW p i false (p.car (x' / 2).toNat) m := ⟨_, rfl⟩
        rw [← hA] at hs1 hl1 HII HEE
        obtain ⟨a1, a2⟩ := A
        simp only at hs1 hl1 HII HEE
        have HI2 := Lib.hid HII
        have tl : ((l' : Int) == 0) = false := by simp; omega
        have sl : IntKind.i64.wrap ((l' : Int) - 1) = (m : Int) := by rw [IntWalk.i64_in _ (by omega)]; omega
        have hmi : m < i := by omega
        have hik : i + 1 ≤ k := by omega
        have hml : m + 1 ≤ l' := by omega
        clear hx0 hc hi hl0 hm9 hi9 HII hA
        go_wp2_with fail
        refine HGr.out.mono ?_
        rintro e w1 ⟨rfl, hb1⟩
        rw [HPV.out]
        have HB1 : Hid (Below B w w1) := HBr.out.trans (hb1.mono (by omega))
        have HW1 := Lib.hid (HWr.out.belowK hb1)
        have hz1 := HB1.out.size
        clear hb1
        go_wp2_with fail
        refine (wWriteByte B b _ _ _ 32 _ HW1.out (by rw [Lib.strCells_length]; omega) (by omega)).mono ?_
        rintro e w2 ⟨rfl, hw2, hb2⟩
        have HW2 : Hid (IsWr B b (.iface ty v) (Lib.strCells (s' ++ sspc)) (l' : Int) w2) := by rw [strCells_app]; exact hw2
        have HB2 : Hid (Below B w w2) := HB1.out.trans hb2
        have hz2 := HB2.out.size
        have c3 := HW2.out.c3
        have f3 := HW2.out.f3
        clear hw2 hb2
        go_wp2_with fail
        have HL4 := Lib.hid (HW2.out.less (m : Int))
        have hz4 : (w2.setCell ⟨b, 3, none⟩ (.int .i64 (m : Int))).heap.size = w2.heap.size := by simp [World.setCell]
        have HB4 : Hid (Below B w (w2.setCell ⟨b, 3, none⟩ (.int .i64 (m : Int)))) := HB2.out.setCell (p := ⟨b, 3, none⟩) HBb.1 _
        refine (HI2.out _ HP.out hmi (by omega) HCA.out (by omega) (fun W hW => HT.out W (HB4.out.trans hW)) HL4.out (HS.out.below HB4.out) (by rw [ByteArray.size_append]; show s'.size + 1 + _ ≤ _; omega)).mono ?_
        rintro e w6 ⟨rfl, hw6, hb6⟩
        have HW6 := Lib.hid hw6
        have HB6 : Hid (Below B w w6) := HB4.out.trans hb6
        clear hw6 hb6 c3 f3 hz4
        go_wp2_with fail
        go_roundw
        case rel => exact ⟨_, i, a2, s' ++ sspc ++ a1, rfl, HCD, by omega, by omega, by omega, HW6, HB6, HEE, by rw [ByteArray.size_append, ByteArray.size_append]; show s'.size + 1 + _ + _ ≤ _; omega⟩
        case measure =>
          have h1 := leftN_of HW6.out
          have h2 := leftN_of HWr.out
          (try simp only)
          omega
theorem item_rest : ∀ k, ItemC k ∧ RestC k := by
  intro k
  induction k using Nat.strongRecOn with
  | ind k ih =>
    refine ⟨?_, rest_step k (fun j hj => (ih j hj).1)⟩
    cases k with
    | zero => intro B b src p s l x w _ h; omega
    | succ n => exact item_step n (ih n (by omega)).1 (ih n (by omega)).2
end Go.Proofs.YtipoklnoknkfhaaDoor
