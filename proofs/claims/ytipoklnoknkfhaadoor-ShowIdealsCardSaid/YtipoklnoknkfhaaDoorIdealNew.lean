/- The contract of ideal.New. -/
import Derived.Test.YtipoklnoknkfhaaDoorIdealDoN
namespace Go.Proofs.YtipoklnoknkfhaaDoor
open Go Go.RowKit
set_option linter.unusedSimpArgs false
set_option linter.unusedVariables false

theorem info_iword : (Tryd.prog.info? 26).map (fun i => (i.zero, i.size, i.bytes)) = some (some (.int .u64 0), 1, 8) := by kernel_rfl
theorem madeCells_row (n : Nat) : madeCells #[.int .u64 0] n = ((List.replicate n (0 : Int)).map (Value.int .u64)).toArray := by
  unfold madeCells
  have : ∀ x : Nat, [Value.int IntKind.u64 0][x % 1]?.getD default = Value.int IntKind.u64 0 := fun x => by rw [Nat.mod_one]; rfl
  simp [this]
  apply Array.ext
  · simp
  · intro i h1 h2
    simp
theorem make_words (w : World) (n : Nat) (hn : n ≤ 100000) :
    (Instr.makeSlice 24 (.int .i64 (n : Int)) (.int .i64 (n : Int))).run Tryd.prog w = .ok (.slice (some ⟨w.heap.size, 0, none⟩) n n) (w.alloc (.cells ((List.replicate n (0 : Int)).map (Value.int .u64)).toArray 26)) := by
  have hi : ∃ i, Tryd.prog.info? 26 = some i ∧ i.zero = some (.int .u64 0) ∧ i.size = 1 ∧ i.bytes = 8 := by
    have := info_iword
    cases hh : Tryd.prog.info? 26 with
    | none => rw [hh] at this; cases this
    | some i =>
      rw [hh] at this
      simp at this
      exact ⟨i, rfl, this⟩
  obtain ⟨i0, hi0, hz0, hz1, hz2⟩ := hi
  have h := run_make_rowN (P := Tryd.prog) 24 26 i0 _ Tryd.underlying24 hi0 hz0 .i64 .i64 n n (Nat.le_refl _) (by rw [hz2]; omega) (by omega) w
  rw [h, hz1, ← madeCells_row]
  simp [Value.cells]
theorem own_made (w w' : World) (n : Nat) (hn : n ≤ 100000) (g : Nat) (h : w'.heap[g]? = some (.cells ((List.replicate n (0 : Int)).map (Value.int .u64)).toArray 26)) (hb : w.heap.size ≤ g) :
    Own .u64 26 w' w.heap.size (.slice (some ⟨g, 0, none⟩) n n) (List.replicate n 0) :=
  ⟨by simp, .inr ⟨g, n, _, by simp, hb, h, by simp, by unfold maxLen; omega, by simp, by simp⟩⟩

theorem new_ok {m r g : Int} (h : (⟨2, m, r, g⟩ : Cfg).ok = true) : (Sto.new m r g).Ok where
  ok := h
  rl := by simp [Sto.new]
  gl := by simp [Sto.new]
  rw_ := fun w hw => by obtain rfl := (List.mem_replicate.1 hw).2; exact Wd.zero _
  gw := fun w hw => by obtain rfl := (List.mem_replicate.1 hw).2; exact Wd.zero _
  cw := fun w hw => by cases hw
  few := by simp [Sto.new]
theorem heap3 (W : World) (a b c : Obj) : (((W.alloc a).alloc b).alloc c).heap[W.heap.size]? = some a ∧ (((W.alloc a).alloc b).alloc c).heap[W.heap.size + 1]? = some b ∧ (((W.alloc a).alloc b).alloc c).heap[W.heap.size + 2]? = some c := by
  refine ⟨?_, ?_, ?_⟩
  · rw [Below.heap_alloc _ _ _ (by simp; omega)]; exact heap_new1 W a b
  · rw [Below.heap_alloc _ _ _ (by simp)]; exact heap_new2 W a b
  · have := heap_alloc_new ((W.alloc a).alloc b) c
    simpa using this
abbrev zrow (n : Nat) : Obj := .cells (Array.replicate n (.int .u64 0)) 26
theorem new_sto {w' : World} {B : Nat} {m r : Int} {N G : Nat} (hN : (N : Int) = m * r) (hNl : N ≤ 100000) (hGl : G ≤ 100000) (ok : (⟨2, m, r, G⟩ : Cfg).ok = true) (gr gg b : Nat) (h1 : w'.heap[gr]? = some (zrow N)) (h2 : w'.heap[gg]? = some (zrow G))
    (h3 : w'.heap[b]? = some (.cells #[.int .i64 2, .int .i64 m, .int .i64 r, .int .i64 G, .slice (some ⟨gr, 0, none⟩) N N, .slice (some ⟨gg, 0, none⟩) G G, .slice none 0 0] 101)) (n1 : gr ≠ gg) (n2 : gr ≠ b) (n3 : gg ≠ b) (l1 : B ≤ gr) (l2 : B ≤ gg) (l3 : B ≤ b) :
    StoAt w' (fun x => B ≤ x ∧ x < w'.heap.size) b (Sto.new m r G) gr N (.slice (some ⟨gg, 0, none⟩) G G) (.slice none 0 0) := by
  have e1 : (m * r).toNat = N := by omega
  have er : (Sto.new m r G).rs = List.replicate N 0 := by unfold Sto.new; rw [e1]
  have eg : (Sto.new m r G).gs = List.replicate G 0 := by unfold Sto.new; simp
  have el : (Sto.new m r G).rs.length = N := by rw [er]; simp
  exact {
    head := by rw [el]; exact h3
    r := by rw [el, er]; exact ⟨by simp, .inr ⟨gr, N, _, by simp, Nat.zero_le _, h1, by simp, by unfold maxLen; omega, by simp, by simp⟩⟩
    g := by rw [eg]; exact ⟨by simp, .inr ⟨gg, G, _, by simp, Nat.zero_le _, h2, by simp, by unfold maxLen; omega, by simp, by simp⟩⟩
    cl := ⟨rfl, .inl ⟨rfl, rfl⟩⟩
    tb := ⟨l3, block_lt h3⟩
    tr := ⟨l1, block_lt h1⟩
    tg := fun x hx => by simp [Value.ownBlock] at hx; subst hx; exact ⟨l2, block_lt h2⟩
    tc := fun x hx => by simp [Value.ownBlock] at hx
    br := n2
    bg := by simpa [Value.ownBlock] using n3
    bc := by simp [Value.ownBlock]
    rg := by simp [Value.ownBlock]; exact fun e => n1 e.symm
    rc := by simp [Value.ownBlock]
    gc := fun x _ => by simp [Value.ownBlock]
    ok := new_ok ok }

def NewPost (w : World) (m r g : Int) (e : Ending) (w' : World) : Prop :=
  Below w.heap.size w w' ∧
  if (⟨2, m, r, g⟩ : Cfg).ok = true then ∃ b gr kr vg, e = .returned (.tuple #[.pointer (some ⟨b, 0, none⟩), .int .i64 0]) ∧ StoAt w' (fun x => w.heap.size ≤ x ∧ x < w'.heap.size) b (Sto.new m r g) gr kr vg (.slice none 0 0)
  else e = .returned (.tuple #[.pointer none, .int .i64 2])
theorem err_atom (c : Cfg) : (⟨11, 0, 0, 0⟩ : Opr).err c = if c.ok = true then 0 else 1 := by
  unfold Opr.err
  by_cases h : c.ok = true
  · obtain ⟨_, _, _, _, _, _, _, _⟩ := c.ok_iff.1 h
    rw [if_pos h, if_pos h, if_pos (by decide), if_neg]
    simp [badFrom, fparts, pbad, Opr.num]
    omega
  · rw [if_neg h, if_neg h]
set_option maxHeartbeats 4000000 in
set_option maxRecDepth 100000 in
theorem inew_any (w : World) (m r g : Int) :
    Calls Tryd.prog 19 #[.int .i64 m, .int .i64 r, .int .i64 g] w (NewPost w m r g) := by
  obtain ⟨c, hc⟩ : ∃ c : Cfg, c = ⟨2, m, r, g⟩ := ⟨_, rfl⟩
  have HB0 : Hid (Below w.heap.size w (w.alloc c.obj)) := (Below.refl _ _).alloc (Nat.le_refl _) _
  have HC0 := Lib.hid (heap_alloc_new w c.obj)
  obtain ⟨k0, k1, k2, k3⟩ := Cfg.cells_at HC0.out
  have HE := Lib.hid (err_atom c)
  by_cases ok : c.ok = true
  · have HOK := Lib.hid ok
    rw [if_pos ok] at HE
    obtain ⟨_, hmr⟩ := c.mr ok
    obtain ⟨_, _, _, _, _, _, _, _⟩ := c.ok_iff.1 ok
    subst hc
    simp only at *
    obtain ⟨N, hN⟩ : ∃ N : Nat, (N : Int) = m * r := ⟨(m * r).toNat, by omega⟩
    obtain ⟨G, rfl⟩ : ∃ G : Nat, g = (G : Int) := ⟨g.toNat, by omega⟩
    have HN := Lib.hid hN
    have hw : IntKind.i64.wrap (m * r) = (N : Int) := by rw [← hN]; exact IntWalk.i64_in _ (by omega)
    have hNl : N ≤ 100000 := by omega
    have hGl : G ≤ 100000 := by omega
    have hm1 := fun w => make_words w N hNl
    have hm2 := fun w => make_words w G hGl
    clear ok hN hmr
    go_enter Tryd.func19, Tryd.ntmps19
    go_wp2_with fail
    refine (ocheck_any _ ⟨2, m, r, G⟩ ⟨11, 0, 0, 0⟩).mono ?_
    rintro e w1 ⟨rfl, hb⟩
    rw [HE.out]
    have HB1 : Hid (Below w.heap.size w w1) := HB0.out.trans (hb.mono (by simp))
    have HC1 : Hid (w1.heap[w.heap.size]? = some (⟨2, m, r, G⟩ : Cfg).obj) := (hb.block _ (by simp)).trans HC0.out
    clear hb k0 k1 k2 k3
    obtain ⟨k0, k1, k2, k3⟩ := Cfg.cells_at HC1.out
    have HZ1 := Lib.hid HB1.out.size
    go_wp2_with fail
    have HZL : Hid (w.heap.size < w1.heap.size) := block_lt HC1.out
    go_region_held3 (fun w' => w'.cell? ⟨w.heap.size, 0, none⟩ = some (.int .i64 2) ∧ w'.cell? ⟨w.heap.size, 1, none⟩ = some (.int .i64 m) ∧ w'.cell? ⟨w.heap.size, 2, none⟩ = some (.int .i64 r) ∧ w'.cell? ⟨w.heap.size, 3, none⟩ = some (.int .i64 G))
      (first
        | exact ⟨k0, k1, k2, k3⟩
        | (go_split_ands; refine ⟨?_, ?_, ?_, ?_⟩ <;> exact (World.cell?_alloc_lt _ _ _ (by have := HZL.out; simp; omega)).trans (by assumption)))
      (first | fail)
    all_goals
      go_wp2_with fail
      go_ret2
      refine ⟨by repeat (first | with_reducible exact HB1.out | with_reducible refine below_drewN ?_ _ | with_reducible refine Below.drew ?_ | with_reducible refine Below.alloc ?_ (by have := HZ1.out; simp; omega) _), ?_⟩
      rw [if_pos HOK.out]
      first
        | (refine ⟨w1.heap.size + 2, w1.heap.size, N, .slice (some ⟨w1.heap.size + 1, 0, none⟩) G G, rfl, ?_⟩
           obtain ⟨g1, g2, g3⟩ := heap3 w1 (zrow N) (zrow G) (.cells #[.int .i64 2, .int .i64 m, .int .i64 r, .int .i64 G, .slice (some ⟨w1.heap.size, 0, none⟩) N N, .slice (some ⟨w1.heap.size + 1, 0, none⟩) G G, .slice none 0 0] 101)
           exact new_sto HN.out hNl hGl HOK.out _ _ _ g1 g2 g3 (by omega) (by omega) (by omega) HZ1.out (by have := HZ1.out; omega) (by have := HZ1.out; omega))
        | (refine ⟨w1.heap.size + 2, w1.heap.size + 1, N, .slice (some ⟨w1.heap.size, 0, none⟩) G G, rfl, ?_⟩
           obtain ⟨g1, g2, g3⟩ := heap3 w1 (zrow G) (zrow N) (.cells #[.int .i64 2, .int .i64 m, .int .i64 r, .int .i64 G, .slice (some ⟨w1.heap.size + 1, 0, none⟩) N N, .slice (some ⟨w1.heap.size, 0, none⟩) G G, .slice none 0 0] 101)
           exact new_sto HN.out hNl hGl HOK.out _ _ _ g2 g1 g3 (by omega) (by omega) (by omega) (by have := HZ1.out; omega) HZ1.out (by have := HZ1.out; omega))
  · have HOK := Lib.hid ok
    rw [if_neg ok] at HE
    subst hc
    clear ok
    go_enter Tryd.func19, Tryd.ntmps19
    go_wp2_with fail
    refine (ocheck_any _ ⟨2, m, r, g⟩ ⟨11, 0, 0, 0⟩).mono ?_
    rintro e w1 ⟨rfl, hb⟩
    rw [HE.out]
    have HB1 : Hid (Below w.heap.size w w1) := HB0.out.trans (hb.mono (by simp))
    clear hb k0 k1 k2 k3
    go_wp2_with fail
    go_ret2
    exact ⟨HB1.out, by rw [if_neg HOK.out]; rfl⟩
end Go.Proofs.YtipoklnoknkfhaaDoor
