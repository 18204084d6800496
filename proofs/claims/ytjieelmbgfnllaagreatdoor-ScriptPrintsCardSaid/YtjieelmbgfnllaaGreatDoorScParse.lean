/- misread and ends: the errors that Parse hands back. Conditions: errors.errorType is laid. -/
import Derived.Test.YtjieelmbgfnllaaGreatDoorScLine3
import Derived.Test.YtjieelmbgfnllaaGreatDoorScAs
namespace Go.Proofs.YtjieelmbgfnllaaGreatDoor
open Go.RowKit Scr

/-- A *Misread that the call made. -/
def MisIs (w w' : World) (f : Fault) (v : Value) : Prop :=
  ∃ b, v = .iface 92 (.pointer (some ⟨b, 0, none⟩)) ∧ w.heap.size ≤ b ∧ Blk w' b 95 #[.int .i64 f.1, .int .i64 f.2.1, .int .i64 f.2.2]
abbrev errTypeIs (w : World) : Prop := w.cell? ⟨0, 0, none⟩ = some (.iface 270 (.agg #[.pointer (some ⟨10, 24, none⟩)]))

set_option maxRecDepth 100000 in
set_option maxHeartbeats 4000000 in
theorem misread_walk (w : World) (l fb : Nat) (f : Flt) (hg : errTypeIs w) (hf : Blk w fb 169 #[.int .i64 f.1, .int .i64 f.2]) :
    Calls Tryz.prog 34 #[.int .i64 l, .iface 167 (.pointer (some ⟨fb, 0, none⟩))] w fun e w' => ∃ v, e = .returned v ∧ MisIs w w' (l, f.1, f.2) v ∧ Mod [] w w' := by
  have hfl := hf.lt
  have h0l : 0 < w.heap.size := by
    rcases Nat.eq_zero_or_pos w.heap.size with h0 | h
    · unfold errTypeIs at hg; simp [World.cell?, h0] at hg
    · exact h
  have H := Lib.hid (And.intro hg hf)
  clear hg hf
  go_enter Tryz.func34, Tryz.ntmps34
  go_wp2_with fail
  have hm0 : Mod [] w (w.alloc (.cells #[.pointer none] 167)) := (Mod.refl _ _).alloc _
  refine (asf_hit ⟨fb, 0, none⟩ ⟨w.heap.size, 0, none⟩ (.pointer none) _ (hm0.cell H.out.1 (by simp)) ((Blk.new w 167 #[.pointer none]).cell 0) ((Blk.new w 167 #[.pointer none]).frozen 0)).mono ?_
  rintro e w1 ⟨rfl, hw1⟩
  have hm1 : Mod [w.heap.size] (w.alloc (.cells #[.pointer none] 167)) w1 := by
    rw [hw1]
    exact (((((Mod.refl _ _).alloc _).alloc _).alloc _).alloc _).setCell (by simp) _
  have hb1 : Blk w1 w.heap.size 167 #[.pointer (some ⟨fb, 0, none⟩)] := by
    rw [hw1]
    exact (((((Blk.new w 167 #[.pointer none]).alloc _).alloc _).alloc _).alloc _).set_ 0 _
  clear hw1
  have hmw : Mod [] w w1 := hm0.then hm1 (by simp)
  have hf1 := hmw.blk H.out.2 (by simp)
  have hl1 := hb1.lt
  have hl2 := hf1.lt
  have hc0 := hb1.cell 0
  have hcf0 := hb1.frozen 0
  simp at hc0
  have hd0 := hf1.cell 0
  have hd1 := hf1.cell 1
  have hdf0 := hf1.frozen 0
  have hdf1 := hf1.frozen 1
  simp at hd0 hd1
  have H2 := Lib.hid hmw
  clear hm0 hm1 hb1 hmw hf1
  go_wp2
  go_region
  go_wp2
  go_ret
  have hmw := H2.out
  exact ⟨_, rfl, ⟨w1.heap.size, rfl, hmw.size, (Blk.newAt _ _ _ (by simp)).drewN 0⟩, by first | exact (hmw.alloc _).drew | exact hmw.drew.alloc _⟩

set_option maxRecDepth 100000 in
set_option maxHeartbeats 4000000 in
theorem ends_walk (w : World) (g k : Nat) (ls : List ByteArray) (last : ByteArray) (hk : ls.length = k + 1) (hl : ls[k]? = some last) (hb : Blk w g 9 (ls.map Value.string).toArray) (hls : ls.length ≤ 1099511627776) :
    Calls Tryz.prog 35 #[.slice (some ⟨g, 0, none⟩) ls.length ls.length] w fun e w' => ∃ v, e = .returned v ∧ MisIs w w' (ls.length, last.size, 204) v ∧ Mod [] w w' := by
  have hc : w.cell? ⟨g, k, none⟩ = some (.string last) := by
    have := hb.cell k
    rw [this]; simp [hl]
  have hgl := hb.lt
  clear hb hl
  rw [hk] at hls ⊢
  clear hk
  go_enter Tryz.func35, Tryz.ntmps35
  go_wp2
  go_ret
  refine ⟨_, rfl, ⟨w.heap.size, rfl, Nat.le_refl _, ?_⟩, (Mod.refl _ _).alloc _⟩
  have : (((k + 1, last.size, 204) : Fault).1 : Int) = (k : Int) + 1 := by push_cast; rfl
  rw [this]
  exact Blk.new _ _ _

/-! ### strings.Split at a line feed: the plain lines -/
theorem linesG_acc : ∀ (l acc : Bs), linesG acc l = (match linesG [] l with | [] => [acc] | x :: r => (acc ++ x) :: r)
  | [], acc => by simp [linesG]
  | c :: t, acc => by
    rw [linesG, linesG]
    by_cases h : c = 10
    · simp [h]
    · rw [if_neg h, if_neg h, linesG_acc t (acc ++ [c]), linesG_acc t ([] ++ [c])]
      cases hx : linesG [] t with
      | nil => simp
      | cons x r => simp
theorem linesG_ne (l acc : Bs) : linesG acc l ≠ [] := by
  rw [linesG_acc]
  cases linesG [] l <;> simp
theorem lines_none : ∀ (l : Bs), 10 ∉ l → lines l = [l]
  | [], _ => rfl
  | c :: t, h => by
    have hc : c ≠ 10 := fun e => h (by rw [e]; exact List.mem_cons_self ..)
    have ih := lines_none t (fun hm => h (List.mem_cons_of_mem _ hm))
    unfold lines at ih ⊢
    rw [linesG, if_neg hc, linesG_acc, ih]; simp
theorem lines_at : ∀ (l r : Bs), 10 ∉ l → lines (l ++ 10 :: r) = l :: lines r
  | [], r, _ => by unfold lines; rw [List.nil_append, linesG, if_pos rfl]
  | c :: t, r, h => by
    have hc : c ≠ 10 := fun e => h (by rw [e]; exact List.mem_cons_self ..)
    have ih := lines_at t r (fun hm => h (List.mem_cons_of_mem _ hm))
    unfold lines at ih ⊢
    rw [List.cons_append, linesG, if_neg hc, linesG_acc, ih]; simp
theorem occ_one (s : Bs) (j : Nat) : Lib.occAt s [10] j = true ↔ s[j]? = some 10 := by
  unfold Lib.occAt
  rw [← List.head?_drop]
  cases s.drop j with
  | nil => simp
  | cons c t => simp [List.isPrefixOf]; exact eq_comm
theorem split_lines : ∀ (m : Nat) (s : Bs), s.length ≤ m → Lib.splitK [10] 0 (Lib.count s [10]) s = lines s := by
  intro m
  induction m with
  | zero =>
    intro s h
    have : s = [] := List.eq_nil_of_length_eq_zero (by omega)
    subst this; rfl
  | succ m ih =>
    intro s h
    rcases Lib.index_spec s [10] with ⟨h1, h2⟩ | ⟨i, h1, h2, h3, h4⟩
    · rw [Lib.count_miss h1]
      have : 10 ∉ s := by
        intro hm
        obtain ⟨j, hj⟩ := List.mem_iff_getElem?.1 hm
        have hl := (List.getElem?_eq_some_iff.1 hj).1
        have := h2 j (by omega)
        rw [(occ_one s j).2 hj] at this; cases this
      rw [lines_none s this]; rfl
    · rw [Lib.count_hit (by simp) h1, Nat.add_comm, Lib.splitK]
      have hm : ¬ (Lib.index s [10] == -1) = true := fun e => by have := beq_iff_eq.1 e; omega
      rw [if_neg hm, show (Lib.index s [10]).toNat = i from by omega]
      have hi := (occ_one s i).1 h3
      have hil := (List.getElem?_eq_some_iff.1 hi).1
      have hs : s = s.take i ++ 10 :: s.drop (i + 1) := by
        have h5 := List.drop_eq_getElem_cons hil
        have h6 : s[i] = 10 := (List.getElem?_eq_some_iff.1 hi).2
        rw [h6] at h5
        rw [← h5, List.take_append_drop]
      have hno : 10 ∉ s.take i := by
        intro hm
        obtain ⟨j, hj⟩ := List.mem_iff_getElem?.1 hm
        have hl := (List.getElem?_eq_some_iff.1 hj).1
        rw [List.length_take] at hl
        rw [List.getElem?_take_of_lt (by omega)] at hj
        have := h4 j (by omega)
        rw [(occ_one s j).2 hj] at this; cases this
      have hl : lines s = s.take i :: lines (s.drop (i + 1)) := by
        have := lines_at (s.take i) (s.drop (i + 1)) hno
        rw [← hs] at this; exact this
      rw [hl, Nat.add_zero]
      have := ih (s.drop (i + 1)) (by simp; omega)
      simp only [List.length_cons, List.length_nil, Nat.zero_add]
      rw [this]
theorem splitB_lines (s : ByteArray) : (Lib.splitB ⟨#[10]⟩ 0 (Lib.countB s ⟨#[10]⟩) s).map (·.data.toList) = lines s.data.toList := by
  rw [Lib.splitB_data]
  exact split_lines _ _ (Nat.le_refl _)
end Go.Proofs.YtjieelmbgfnllaaGreatDoor
