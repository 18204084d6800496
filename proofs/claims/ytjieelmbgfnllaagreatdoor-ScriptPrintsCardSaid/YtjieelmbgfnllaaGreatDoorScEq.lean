/- slices.Equal at two lists of writes that are the same. Conditions: at most 70000 of them. -/
import Derived.Test.YtjieelmbgfnllaaGreatDoorScShown2
import Derived.Laws.StructEq
namespace Go.Proofs.YtjieelmbgfnllaaGreatDoor
open Go.RowKit Scr

theorem exec_load_mid {P : Program} {op : Oper} {a : Act} {X : World} (ty : TypeId) (x : Operand) (ho : op.op = .load ty x) (b o : Nat) (hx : a.eval x = .pointer (some ⟨b, o, none⟩)) (cs : List Value) (d : TypeDesc) (hc : X.rangeAt b o cs)
    (hu : P.underlying ty = some d) (hd : d.isRow = true) (hi : (P.info? ty).map (·.size) = some cs.length) : (execOp a.eval op).run P X = .ok (.value (.agg cs.toArray)) X := by
  unfold execOp
  simp only [ho, hx, Instr.loadAt, Instr.sureAddr, Sem.run_bind, Sem.run_pure, Result.andThen_ok, run_loadVar_mid X b o ty cs d hc hu hd hi]
theorem range_new {w w' : World} {b o : Nat} {cs : List Value} (h : w.rangeAt b o cs) (hm : Mod [] w w') : w'.rangeAt b o cs := fun j v hj => hm.cell (h j v hj) (by simp)
/-- The cells of the write at a place. -/
theorem SeenWrs.range {w : World} {v : Value} {l : List Wr} (h : SeenWrs w v l) {i : Nat} {x : Wr} (hx : l[i]? = some x) : ∃ b off c, v = .slice (some ⟨b, off, none⟩) l.length c ∧ w.rangeAt b (off + i * 3) [.string ⟨x.key.toArray⟩, .bool x.del, .string ⟨x.val.toArray⟩] := by
  obtain ⟨b, off, c, rfl, h0, h1, h2⟩ := h.at_ hx
  refine ⟨b, off, c, rfl, fun j u hu => ?_⟩
  match j, hu with
  | 0, hu => simp at hu; subst hu; exact h0
  | 1, hu => simp at hu; subst hu; rw [Nat.add_assoc]; exact h1
  | 2, hu => simp at hu; subst hu; rw [Nat.add_assoc]; exact h2

theorem wr_guard : Tryz.prog.eqGuardType Tryz.prog.depth 71 = false := by kernel_rfl
theorem wr_held : Tryz.prog.stoodInHeld 71 = false := by kernel_rfl
theorem wr_fields : Tryz.prog.underlying 71 = some (.struct (Tryz.prog.fieldsOf 71)) := by kernel_rfl
theorem wr_neq (x : Wr) (X : World) : (binOp .neq 71 (.agg #[.string ⟨x.key.toArray⟩, .bool x.del, .string ⟨x.val.toArray⟩]) (.agg #[.string ⟨x.key.toArray⟩, .bool x.del, .string ⟨x.val.toArray⟩])).run Tryz.prog X = .ok (.bool false) X := by
  have h1 := wr_fields
  have h2 := wr_held
  have h3 := Tryz.underlying71
  simp only [run_neq_struct, run_equalIn_agg X 9999 _ _ _ h1 h2]
  have h4 := Tryz.underlying9
  have h5 := Tryz.underlying4
  simp [go_sem, Program.fieldsOf, h3, h4, h5, Op.eqFields]

set_option maxRecDepth 100000 in
set_option maxHeartbeats 4000000 in
theorem equal_writes (w : World) (v1 v2 : Value) (l : List Wr) (h1 : SeenWrs w v1 l) (h2 : SeenWrs w v2 l) (hl : l.length ≤ 70000) :
    Calls Tryz.prog 151 #[v1, v2] w fun e w' => e = .returned (.bool true) ∧ Mod [] w w' := by
  have HS := Lib.hid (And.intro h1 h2)
  obtain ⟨A, c, rfl, _⟩ := h1
  obtain ⟨B, d, rfl, _⟩ := h2
  obtain ⟨n, hn⟩ : ∃ n, n = l.length := ⟨_, rfl⟩
  rw [← hn] at hl ⊢
  have HN := Lib.hid hn
  clear hn
  go_enter Tryz.func151, Tryz.ntmps151
  go_wp2
  go_loopw [13] (fun s13 wr => ∃ j : Nat, s13 = .int .i64 j ∧ j ≤ n ∧ Mod [] w wr) (fun s13 _ => n - (RowKit.intOf s13).toNat)
  case atStart => exact ⟨0, by go_num, Nat.zero_le _, Mod.refl _ _⟩
  case round =>
    obtain ⟨j, rfl, hj, hm⟩ := hrel
    by_cases hjl : j < n
    · obtain ⟨x, hx⟩ : ∃ x, l[j]? = some x := ⟨_, List.getElem?_eq_getElem (by rw [← HN.out]; exact hjl)⟩
      obtain ⟨b1, o1, c1, e1, r1⟩ := HS.out.1.range hx
      obtain ⟨b2, o2, c2, e2, r2⟩ := HS.out.2.range hx
      have HR := Lib.hid (And.intro (fun (X : World) (hX : Mod [] w X) => range_new r1 hX) (fun (X : World) (hX : Mod [] w X) => range_new r2 hX))
      have HM := Lib.hid hm
      cases e1
      cases e2
      clear r1 r2 hm hx
      have hjn : (j : Int) < (n : Int) := by omega
      go_wp2
      refine region_C (fun X => Mod [] w X) (by kernel_rfl) (fun _ _ _ _ _ h => h) (fun hQp => ?_)
      have HC := HM.out.drew
      simp only [List.length_cons, List.length_nil]
      refine anyC_take (i := 0) (v := ?_) (a' := ?_) HC rfl rfl (by kernel_rfl) (by kernel_rfl) (by kernel_rfl) hQp (by rfl) ?_ ?_ ?_
      rotate_left 2
      · intro X hX
        go_simp
        first | rfl | (rw [if_neg (by omega)])
      · simp [Act.put]
        rfl
      refine anyC_take (i := 1) (v := ?_) (a' := ?_) HC rfl rfl (by kernel_rfl) (by kernel_rfl) (by kernel_rfl) hQp (by rfl) ?_ ?_ ?_
      rotate_left 2
      · intro X hX
        go_simp
        first | rfl | (rw [if_neg (by omega)])
      · simp [Act.put]
        rfl
      refine anyC_take (i := 2) (v := ?_) (a' := ?_) HC rfl rfl (by kernel_rfl) (by kernel_rfl) (by kernel_rfl) hQp (by rfl) ?_ ?_ ?_
      rotate_left 2
      · intro X hX
        go_simp
        first | rfl | (rw [if_neg (by omega)])
      · simp [Act.put]
        rfl
      refine anyC_take (i := 3) (v := .agg #[.string ⟨x.key.toArray⟩, .bool x.del, .string ⟨x.val.toArray⟩]) (a' := ?_) HC rfl rfl (by kernel_rfl) (by kernel_rfl) (by kernel_rfl) hQp (by rfl) ?_ ?_ ?_
      rotate_left 1
      · intro X hX
        apply exec_load_mid 71 (hc := HR.out.1 X hX) (hu := Tryz.underlying71) (hd := rfl) (hi := by kernel_rfl)
        all_goals rfl
      · simp [Act.put]
        rfl
      refine anyC_take (i := 4) (v := ?_) (a' := ?_) HC rfl rfl (by kernel_rfl) (by kernel_rfl) (by kernel_rfl) hQp (by rfl) ?_ ?_ ?_
      rotate_left 2
      · intro X hX
        go_simp
        first | rfl | (rw [if_neg (by omega)])
      · simp [Act.put]
        rfl
      refine anyC_take (i := 5) (v := ?_) (a' := ?_) HC rfl rfl (by kernel_rfl) (by kernel_rfl) (by kernel_rfl) hQp (by rfl) ?_ ?_ ?_
      rotate_left 2
      · intro X hX
        go_simp
        first | rfl | (rw [if_neg (by omega)])
      · simp [Act.put]
        rfl
      refine anyC_take (i := 6) (v := ?_) (a' := ?_) HC rfl rfl (by kernel_rfl) (by kernel_rfl) (by kernel_rfl) hQp (by rfl) ?_ ?_ ?_
      rotate_left 2
      · intro X hX
        go_simp
        first | rfl | (rw [if_neg (by omega)])
      · simp [Act.put]
        rfl
      refine anyC_take (i := 7) (v := .agg #[.string ⟨x.key.toArray⟩, .bool x.del, .string ⟨x.val.toArray⟩]) (a' := ?_) HC rfl rfl (by kernel_rfl) (by kernel_rfl) (by kernel_rfl) hQp (by rfl) ?_ ?_ ?_
      rotate_left 1
      · intro X hX
        apply exec_load_mid 71 (hc := HR.out.2 X hX) (hu := Tryz.underlying71) (hd := rfl) (hi := by kernel_rfl)
        all_goals rfl
      · simp [Act.put]
        rfl
      refine anyC_take (i := 8) (v := ?_) (a' := ?_) HC rfl rfl (by kernel_rfl) (by kernel_rfl) (by kernel_rfl) hQp (by rfl) ?_ ?_ ?_
      rotate_left 2
      · intro X hX
        have hne := wr_neq x X
        have hgd := wr_guard
        go_simp
        rfl
      · simp [Act.put]
        rfl
      refine anyC_done (by kernel_rfl) ?_ _
      clear hQp
      go_wp2
      go_roundw
      case rel => exact ⟨j + 1, by go_num, by omega, HC⟩
      case measure => simp [RowKit.intOf]; omega
    · go_wp2
      go_ret
      exact ⟨rfl, hm⟩
end Go.Proofs.YtjieelmbgfnllaaGreatDoor
