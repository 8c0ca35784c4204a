/- An ideal store in use by one hand; what the law's awake does. -/
import Derived.Test.YtipoklnoknkfhaaDoorIdealNew
namespace Go.Proofs.YtipoklnoknkfhaaDoor
open Go Go.RowKit
set_option linter.unusedSimpArgs false
set_option linter.unusedVariables false

def IsSto (w : World) (T : Nat → Prop) (b : Nat) (s : Sto) : Prop := ∃ gr kr vg vc, StoAt w T b s gr kr vg vc
theorem IsSto.keep {w w' : World} {T : Nat → Prop} {b : Nat} {s : Sto} (h : IsSto w T b s) {S : Nat → Prop} (k : Keep S w w') (hs : ∀ x, T x → ¬ S x) : IsSto w' T b s := by
  obtain ⟨gr, kr, vg, vc, h⟩ := h
  exact ⟨gr, kr, vg, vc, h.keep k hs⟩
theorem IsSto.below {w w' : World} {T : Nat → Prop} {b : Nat} {s : Sto} (h : IsSto w T b s) (k : Below w.heap.size w w') : IsSto w' T b s := by
  obtain ⟨gr, kr, vg, vc, h⟩ := h
  exact ⟨gr, kr, vg, vc, h.below k⟩
theorem IsSto.ok {w : World} {T : Nat → Prop} {b : Nat} {s : Sto} (h : IsSto w T b s) : s.Ok := by
  obtain ⟨gr, kr, vg, vc, h⟩ := h
  exact h.ok
theorem do_at (w : World) (T : Nat → Prop) (b : Nat) (s : Sto) (h : IsSto w T b s) (hT : ∀ x, w.heap.size ≤ x → T x) (m : Int) (x : Opr) (full : Bool) (hb : x.b < 9223372036854775808) (hf : s.cs.length < 1000000) :
    Calls Tryd.prog 22 #[.pointer (some ⟨b, 0, none⟩), .int .i64 m, x.v, .bool full] w fun e w' => e = .returned (.int .i64 (s.act m x full).2) ∧ IsSto w' T b (s.act m x full).1 ∧ Keep T w w' := by
  obtain ⟨gr, kr, vg, vc, h⟩ := h
  refine (ido_any w T b s gr kr vg vc h m x full hb hf).mono ?_
  rintro e w' ⟨he, ⟨gr', kr', vg', vc', h'⟩, hk⟩
  exact ⟨he, ⟨gr', kr', vg', vc', h'.wide (fun y hy => hy.elim id (fun hy => hT y hy.1))⟩, hk⟩
theorem IsSto.drewN {w : World} {T : Nat → Prop} {b : Nat} {s : Sto} (h : IsSto w T b s) (n : Nat) : IsSto (w.drewN n) T b s := h.keep ((Keep.refl (fun _ => False) w).drewN n) (fun _ _ => id)
theorem new_at (w : World) (m r g : Int) (ok : (⟨2, m, r, g⟩ : Cfg).ok = true) :
    Calls Tryd.prog 19 #[.int .i64 m, .int .i64 r, .int .i64 g] w fun e w' => (∃ b, e = .returned (.tuple #[.pointer (some ⟨b, 0, none⟩), .int .i64 0]) ∧ IsSto w' (fun x => w.heap.size ≤ x ∧ x < w'.heap.size) b (Sto.new m r g)) ∧ Below w.heap.size w w' := by
  refine (inew_any w m r g).mono ?_
  rintro e w' ⟨hb, h⟩
  rw [if_pos ok] at h
  obtain ⟨b, gr, kr, vg, he, hs⟩ := h
  exact ⟨⟨b, he, gr, kr, vg, _, hs⟩, hb⟩

end Go.Proofs.YtipoklnoknkfhaaDoor
