/- The law ScriptUnfolds, walked: true at all inputs. Conditions: the table of powers and errors.errorType are laid; internal/bytealg's variable MaxLen holds an integer. -/
import Derived.Test.YtjieelmbgfnllaaGreatDoorScSteps
import Derived.Test.YtjieelmbgfnllaaGreatDoorScErrs
namespace Go.Proofs.YtjieelmbgfnllaaGreatDoor
open Go.RowKit Scr

theorem times_snoc {α : Type} (k : Nat) (l : List α) : times (k + 1) l = times k l ++ l := by
  unfold times; simp [List.replicate_succ']
theorem times_zero {α : Type} (l : List α) : times 0 l = [] := by unfold times; simp

/-- The slice value v owns a row of steps; each step's own rows can be read. -/
def OwnSteps (w : World) (lo : Nat) (v : Value) (rs : List RStep) : Prop :=
  w.ownsRow lo 69 12 v rs.length (rs.flatMap rowOf) ∧ ∀ x ∈ rs, WritesAt w lo x.2.1 x.1.op.writes ∧ IntsAt w lo x.2.2 x.1.keep
theorem Rich.own {w : World} {lo : Nat} {v : Value} {rs : List RStep} (h : Rich w lo v rs) : OwnSteps w lo v rs := ⟨h.1, h.2.1⟩
theorem OwnSteps.new {w w' : World} {lo : Nat} {v : Value} {rs : List RStep} (h : OwnSteps w lo v rs) (hm : Mod [] w w') : OwnSteps w' lo v rs :=
  ⟨owns_mod h.1 hm (by simp), fun x hx => ⟨owns_mod (h.2 x hx).1 hm (by simp), owns_mod (h.2 x hx).2 hm (by simp)⟩⟩
theorem OwnSteps.lower {w : World} {lo lo' : Nat} {v : Value} {rs : List RStep} (h : OwnSteps w lo v rs) (hl : lo' ≤ lo) : OwnSteps w lo' v rs :=
  ⟨owns_mono h.1 hl, fun x hx => ⟨owns_mono (h.2 x hx).1 hl, owns_mono (h.2 x hx).2 hl⟩⟩
theorem OwnSteps.seen {w : World} {lo : Nat} {v : Value} {rs : List RStep} (h : OwnSteps w lo v rs) : Seen w v rs :=
  ⟨.own h.1, fun x hx => ⟨.own (h.2 x hx).1, .own (h.2 x hx).2⟩⟩
theorem owns_apart {w w' : World} {lo : Nat} {e : TypeId} {size : Nat} {v : Value} {n : Nat} {xs : List Value} {b : Option Nat} (h : w.ownsRow lo e size v n xs) (hg : w.grownBy w' b) (hb : ∀ g, b = some g → v.ownBlock ≠ some g) : w'.ownsRow lo e size v n xs := by
  refine ⟨h.1, ?_⟩
  rcases h.2 with h0 | ⟨g, cap, cur, rfl, hlo, hh, r⟩
  · exact .inl h0
  · exact .inr ⟨g, cap, cur, rfl, hlo, (hg.block g (Array.getElem?_eq_some_iff.1 hh).1 (fun e => hb g e.symm rfl)).trans hh, r⟩
/-- Steps in another row are kept. -/
theorem OwnSteps.apart {w w' : World} {lo lo2 : Nat} {v v2 : Value} {rs rs2 : List RStep} (h : OwnSteps w lo v rs) (h2 : OwnSteps w lo2 v2 rs2) (hg : w.grownBy w' v2.ownBlock) (hb : ∀ g, v2.ownBlock = some g → v.ownBlock ≠ some g) : OwnSteps w' lo v rs :=
  ⟨owns_apart h.1 hg hb, fun x hx => ⟨owns_grown (h.2 x hx).1 h2.1 (by decide) hg, owns_grown (h.2 x hx).2 h2.1 (by decide) hg⟩⟩
theorem own_rows_one {w : World} {lo : Nat} {v : Value} {rs : List RStep} (h : OwnSteps w lo v rs) : ∀ u ∈ rs.flatMap rowOf, u.oneCell' = true := by
  intro u hu
  obtain ⟨x, hx, hxu⟩ := List.mem_flatMap.1 hu
  exact rows_one (h.2 x hx).1 (h.2 x hx).2 u hxu

/-- append(v, more...) of steps. -/
theorem wpList_append_steps {ops : Array Oper} {rest : List Oper} {o : Oper} {a : Act} {w : World} {Q : Exit → Act → World → Prop} (hgd : o.guard = none) (s x : Operand)
    (ho : o.op = .call { callee := .builtin .append, args := #[s, x], argTypes := #[22, 22] })
    (lo lo2 : Nat) (v v2 : Value) (rs rs2 : List RStep) (hs : a.eval s = v) (hx : a.eval x = v2) (h1 : OwnSteps w lo v rs) (h2 : OwnSteps w lo2 v2 rs2) (hl : rs.length + rs2.length ≤ 500000) (hlo : lo ≤ w.heap.size) (hlo2 : lo ≤ lo2)
    (h : ∀ A c nn w', nn = (rs ++ rs2).length → OwnSteps w' lo (.slice A nn c) (rs ++ rs2) → w.grownBy w' v.ownBlock → (A.map (·.block) = v.ownBlock ∨ A.map (·.block) = some w.heap.size) → wpList Tryz.prog ops Q rest (a.put o.dst (.slice A nn c)) w') : wpList Tryz.prog ops Q (o :: rest) a w := by
  refine wpList_plain hgd fun K hK => ?_
  have hcont : ∀ w', w.grownBy w' v.ownBlock → ∀ y ∈ rs ++ rs2, WritesAt w' lo y.2.1 y.1.op.writes ∧ IntsAt w' lo y.2.2 y.1.keep := by
    intro w' hg y hy
    rcases List.mem_append.1 hy with hy | hy
    · exact ⟨owns_grown (h1.2 y hy).1 h1.1 (by decide) hg, owns_grown (h1.2 y hy).2 h1.1 (by decide) hg⟩
    · exact ⟨owns_grown (owns_mono (h2.2 y hy).1 hlo2) h1.1 (by decide) hg, owns_grown (owns_mono (h2.2 y hy).2 hlo2) h1.1 (by decide) hg⟩
  obtain ⟨i0, hi, hz0, hz1, hz2⟩ := info_parts info_step
  rcases h2.1.2 with ⟨rfl, hn0⟩ | ⟨g, cap, cur, rfl, _⟩
  · have hrs : rs2 = [] := List.eq_nil_of_length_eq_zero hn0
    subst hrs
    have hg0 : w.grownBy w v.ownBlock := ⟨rfl, rfl, rfl, Nat.le_refl _, fun _ _ _ => rfl⟩
    rcases h1.1.2 with ⟨rfl, hm0⟩ | ⟨g, cap, cur, rfl, hb, hh, hnc, hcm, hcs, htake⟩
    · have hrs : rs = [] := List.eq_nil_of_length_eq_zero hm0
      subst hrs
      have hr : (Builtin.append_ #[22, 22] o.type #[.slice none 0 0, .slice none 0 0]).run Tryz.prog w = .ok (.slice none 0 0) w := by
        simp [Builtin.append_, run_underlying Tryz.underlying22, sizeOf, typeInfo, hi, Builtin.lenOf, Builtin.firstCells]
      unfold Oper.wp execOp
      simp only [ho, resolve, invoke, builtin, Sem.run_bind, Sem.run_pure, Result.andThen_ok, List.map_toArray, List.map_cons, List.map_nil, hs, hx, hr]
      exact hK _ _ (h none 0 0 w rfl ⟨⟨by simp, .inl ⟨rfl, rfl⟩⟩, by simp⟩ hg0 (.inl rfl))
    · have hr : (Builtin.append_ #[22, 22] o.type #[.slice (some ⟨g, 0, none⟩) rs.length cap, .slice none 0 0]).run Tryz.prog w = .ok (.slice (some ⟨g, 0, none⟩) rs.length cap) w := by
        simp [Builtin.append_, run_underlying Tryz.underlying22, sizeOf, typeInfo, hi, Builtin.lenOf, Builtin.firstCells, hnc, storeCells]
      unfold Oper.wp execOp
      simp only [ho, resolve, invoke, builtin, Sem.run_bind, Sem.run_pure, Result.andThen_ok, List.map_toArray, List.map_cons, List.map_nil, hs, hx, hr]
      exact hK _ _ (h (some ⟨g, 0, none⟩) cap rs.length w (by rw [List.append_nil]) (by rw [List.append_nil]; exact h1) hg0 (.inl rfl))
  · obtain ⟨v', w', hr, h4, h5, _, h6⟩ := run_append_own_at (P := Tryz.prog) w lo 22 o.type 69 i0 (.agg zeroStep) 12 144 Tryz.underlying22 hi hz0 hz1 hz2 rfl (by decide) v rs.length (rs.flatMap rowOf) h1.1 ⟨g, 0, none⟩ rs2.length cap (rs2.flatMap rowOf)
      h2.1.1 (h2.1.cells (g := g) rfl) (own_rows_one h2) (by unfold maxLen; omega) (by omega) hlo
    have h7 : w'.ownsRow lo 69 12 v' (rs ++ rs2).length ((rs ++ rs2).flatMap rowOf) := by rw [List.length_append, List.flatMap_append]; exact h4
    have h8 : ∃ A c, v' = .slice A (rs ++ rs2).length c ∧ v'.ownBlock = A.map (·.block) := by
      rcases h7.2 with ⟨rfl, h0⟩ | ⟨g2, cap2, cur2, rfl, _⟩
      · exact ⟨none, 0, by rw [h0], rfl⟩
      · exact ⟨some ⟨g2, 0, none⟩, cap2, rfl, rfl⟩
    obtain ⟨A, c, rfl, hA⟩ := h8
    unfold Oper.wp execOp
    simp only [ho, resolve, invoke, builtin, Sem.run_bind, Sem.run_pure, Result.andThen_ok, List.map_toArray, List.map_cons, List.map_nil, hs, hx, hr]
    exact hK _ _ (h A c _ w' rfl ⟨h7, hcont w' h5⟩ h5 (by rw [← hA]; exact h6))

/-- Has a text a repeat in it? -/
theorem infix_at {t l : Bs} (h : t <:+: l) : ∃ i, i + t.length ≤ l.length ∧ (l.drop i).take t.length = t := by
  obtain ⟨a, b, rfl⟩ := h
  exact ⟨a.length, by simp only [List.length_append]; omega, by simp⟩
def FoldsPost (T : ByteArray) (w : World) (e : Ending) (w' : World) : Prop := ∃ b, e = .returned (.bool b) ∧ (b = false → ¬ wRepeat <:+: T.data.toList) ∧ w' = w
set_option maxRecDepth 100000 in
set_option maxHeartbeats 4000000 in
theorem folds_walk (w : World) (T : ByteArray) (hT : T.size ≤ 70000) :
    Calls Tryz.prog 26 #[.string T] w (FoldsPost T w) := by
  go_enter Tryz.func26, Tryz.ntmps26
  go_wp2
  go_loopw [3] (fun s3 wr => ∃ j : Nat, s3 = .int .i64 j ∧ j ≤ T.size ∧ wr = w ∧ ∀ i, i < j → (T.data.toList.drop i).take 6 ≠ wRepeat) (fun s3 _ => T.size - (RowKit.intOf s3).toNat)
  case atStart => exact ⟨0, by go_num, Nat.zero_le _, rfl, fun i hi => by omega⟩
  case round =>
    obtain ⟨j, rfl, hj, rfl, hno⟩ := hrel
    have HN := Lib.hid hno
    clear hno
    by_cases hjl : j + 6 ≤ T.size
    · have hj6 : (j : Int) + 6 ≤ (T.size : Int) := by omega
      have e6 : T.extract j (j + 6) = (⟨((T.data.toList.drop j).take 6).toArray⟩ : ByteArray) := (ext_of_list T j 6).symm
      by_cases heq : (T.data.toList.drop j).take 6 = wRepeat
      · have hne : ((T.extract j (j + 6)).toList == [114, 101, 112, 101, 97, 116]) = true := by
          rw [Lib.toList_data, e6, heq]; rfl
        clear e6
        go_wp2
        go_ret
        exact ⟨true, rfl, (fun h => by cases h), rfl⟩
      · have hne : ((T.extract j (j + 6)).toList == [114, 101, 112, 101, 97, 116]) = false := by
          rw [Lib.toList_data, e6, beq_eq_false_iff_ne]
          exact heq
        clear e6
        go_wp2
        go_roundw
        case rel => exact ⟨j + 1, by go_num, by omega, trivial, fun i hi => by
          rcases Nat.lt_succ_iff_lt_or_eq.1 hi with h | h
          · exact HN.out i h
          · rw [h]; exact heq⟩
        case measure => simp [RowKit.intOf]; omega
    · have hj6 : ¬ ((j : Int) + 6 ≤ (T.size : Int)) := by omega
      go_wp2
      go_ret
      refine ⟨false, rfl, fun _ hin => ?_, rfl⟩
      obtain ⟨i, hi, he⟩ := infix_at hin
      have h6 : wRepeat.length = 6 := rfl
      rw [h6] at hi he
      rw [← Lib.size_eq] at hi
      exact HN.out i (by omega) he
end Go.Proofs.YtjieelmbgfnllaaGreatDoor
