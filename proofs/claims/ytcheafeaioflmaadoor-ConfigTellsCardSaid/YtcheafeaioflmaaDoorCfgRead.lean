/- The configuration of a text: what both readings come to. -/
import Derived.Test.YtcheafeaioflmaaDoorCfgText
import Derived.Test.YtcheafeaioflmaaDoorSplit
import Derived.Test.YtcheafeaioflmaaDoorAtoi
namespace Go.Proofs.YtcheafeaioflmaaDoor
open Go Go.RowKit
set_option linter.unusedVariables false

open Classical in
/-- the right configuration whose text it is, and 0; or none, and 3 -/
noncomputable def cread (s : ByteArray) : Cfg × Int := if h : ∃ d : Cfg, d.ok = true ∧ d.text = s then (Classical.choose h, 0) else (⟨0, 0, 0, 0⟩, 3)
theorem cread_yes {s : ByteArray} {c : Cfg} (ok : c.ok = true) (h : c.text = s) : cread s = (c, 0) := by
  unfold cread
  have hx : ∃ d : Cfg, d.ok = true ∧ d.text = s := ⟨c, ok, h⟩
  rw [dif_pos hx]
  obtain ⟨o, t⟩ := Classical.choose_spec hx
  rw [cfg_inj o ok (t.trans h.symm)]
theorem cread_no {s : ByteArray} (h : ∀ d : Cfg, d.ok = true → d.text ≠ s) : cread s = (⟨0, 0, 0, 0⟩, 3) := by
  unfold cread
  rw [dif_neg (fun ⟨d, o, t⟩ => h d o t)]
theorem cread_off {s : ByteArray} {c : Cfg} (hc : ∀ d : Cfg, d.ok = true → d.text = s → c = d) (h : ¬ (c.ok = true ∧ c.text = s)) : cread s = (⟨0, 0, 0, 0⟩, 3) :=
  cread_no fun d o t => h (by rw [hc d o t]; exact ⟨o, t⟩)
theorem ctext_ne {c : Cfg} (ok : c.ok = true) : c.text ≠ ⟨#[]⟩ := fun h => by
  have h2 := congrArg (fun b : ByteArray => b.data.toList) h
  have h3 : c.tbytes = [] := by simpa [Cfg.text] using h2
  have h4 := tbytes_parts c ok
  rw [h3] at h4
  have h5 := congrArg List.length h4
  simp [Cfg.tparts, parts] at h5
theorem ctext_not {c : Cfg} (h : ¬ c.ok = true) : c.text = ⟨#[]⟩ := by
  unfold Cfg.text Cfg.tbytes
  rw [if_neg h]
theorem cread_text (c : Cfg) : cread c.text = if c.ok = true then (c, 0) else (⟨0, 0, 0, 0⟩, 3) := by
  split
  · rename_i ok; exact cread_yes ok rfl
  · rename_i ok
    rw [ctext_not ok]
    exact cread_no fun d o => ctext_ne o
theorem cfg_pieces {c : Cfg} (ok : c.ok = true) : pieces c.text = c.tparts.map fun l => ⟨l.toArray⟩ := by
  unfold pieces
  rw [show c.text.data.toList = c.tbytes by simp [Cfg.text], tbytes_parts c ok]
theorem cfg_pieces_len {c : Cfg} (ok : c.ok = true) : (pieces c.text).length = 8 := by rw [cfg_pieces ok]; simp [Cfg.tparts]
/-- the numbers that a text's pieces are read as -/
def NumsOf (s : ByteArray) (v : List Int) : Prop := v.length = 4 ∧ ∀ i, i < 4 → ∀ t, (pieces s)[2 * i + 1]? = some t → AtoiIs t (v.getD i 0)
theorem nums_cfg {s : ByteArray} {v : List Int} (h : NumsOf s v) : ∀ d : Cfg, d.ok = true → d.text = s → (⟨v.getD 0 0, v.getD 1 0, v.getD 2 0, v.getD 3 0⟩ : Cfg) = d := by
  intro d ok hd
  subst hd
  have ho := d.ok_iff.1 ok
  have h0 := (h.2 0 (by decide) ⟨(Lib.decDigits d.cells.toNat).toArray⟩ (by rw [cfg_pieces ok]; rfl)).2 d.cells.toNat (by omega) (by simp)
  have h1 := (h.2 1 (by decide) ⟨(Lib.decDigits d.muts.toNat).toArray⟩ (by rw [cfg_pieces ok]; rfl)).2 d.muts.toNat (by omega) (by simp)
  have h2 := (h.2 2 (by decide) ⟨(Lib.decDigits d.regs.toNat).toArray⟩ (by rw [cfg_pieces ok]; rfl)).2 d.regs.toNat (by omega) (by simp)
  have h3 := (h.2 3 (by decide) ⟨(Lib.decDigits d.globs.toNat).toArray⟩ (by rw [cfg_pieces ok]; rfl)).2 d.globs.toNat (by omega) (by simp)
  rw [h0, h1, h2, h3]
  obtain ⟨a, b, e, f⟩ := d
  simp only at *
  rw [show ((a.toNat : Nat) : Int) = a by omega, show ((b.toNat : Nat) : Int) = b by omega, show ((e.toNat : Nat) : Int) = e by omega, show ((f.toNat : Nat) : Int) = f by omega]
/-- the reference's numbers -/
theorem rnum_cfg {s : ByteArray} : ∀ d : Cfg, d.ok = true → d.text = s → (⟨rnum s.data.toList 0, rnum s.data.toList 1, rnum s.data.toList 2, rnum s.data.toList 3⟩ : Cfg) = d := by
  intro d ok hd
  subst hd
  obtain ⟨h0, h1, h2, h3⟩ := rnum_text d ok
  rw [show d.text.data.toList = d.tbytes by simp [Cfg.text], h0, h1, h2, h3]
end Go.Proofs.YtcheafeaioflmaaDoor
