/- The number that a word says (number). Conditions: none. -/
import Derived.Test.YtjieelmbgfnllaaGreatDoorScQuote
namespace Go.Proofs.YtjieelmbgfnllaaGreatDoor
open Go.RowKit Scr

def numDigits (l : Bs) : Bs := if l.head? = some 45 then l.tail else l
theorem trim_of (s D : ByteArray) (hD : D.data.toList = numDigits s.data.toList) (W : World) :
    Calls Tryz.prog 154 #[.string s, .string ⟨#[45]⟩] W fun e w' => e = .returned (.string D) ∧ w' = W := by
  have h := Tryz.strings_TrimPrefix s ⟨#[45]⟩ W
  have e : (⟨(Lib.trimPrefix s.data.toList (⟨#[45]⟩ : ByteArray).data.toList).toArray⟩ : ByteArray) = D := by
    apply ByteArray.ext
    apply Array.toList_inj.1
    rw [hD]
    simp only [Lib.trimPrefix, numDigits]
    rcases s.data.toList with _ | ⟨c, t⟩
    · simp [Lib.hasPrefix]
    · by_cases hc : c = 45
      · subst hc; simp [Lib.hasPrefix]
      · have h2 : ¬ (45 : UInt8) = c := fun h => hc h.symm
        simp [Lib.hasPrefix, hc, h2]
  rw [e] at h
  exact h

theorem digits_len (l : Bs) : (numDigits l).length ≤ l.length := by
  unfold numDigits; split
  · simp
  · exact Nat.le_refl _
theorem digits_eq (l : Bs) : (numDigits l = l) = (l.head? ≠ some 45) := by
  unfold numDigits
  apply propext
  rcases l with _ | ⟨c, t⟩
  · simp
  · by_cases hc : c = 45
    · subst hc
      simp only [List.head?_cons, if_true, List.tail_cons, ne_eq, not_true_eq_false, iff_false]
      intro h
      have := congrArg List.length h
      simp at this
    · simp [hc]

theorem numL_eq (l : Bs) : numL l = (if numDigits l = [] ∨ 13 < (numDigits l).length ∨ ((numDigits l).head? = some 48 ∧ l ≠ [48]) then none
    else if (numDigits l).all isDig then (if maxN < (numDigits l).foldl digVal 0 then none else some (if l.head? = some 45 then -(((numDigits l).foldl digVal 0 : Nat) : Int) else ((numDigits l).foldl digVal 0 : Nat))) else none) := rfl

theorem foldl_digVal_lt : ∀ (l : Bs) (a : Nat), l.all isDig = true → l.foldl digVal a < (a + 1) * 10 ^ l.length
  | [], a, _ => by simp
  | c :: t, a, h => by
    simp only [List.all_cons, Bool.and_eq_true] at h
    have h1 := foldl_digVal_lt t (digVal a c) h.2
    simp only [List.foldl_cons, List.length_cons]
    refine Nat.lt_of_lt_of_le h1 ?_
    have hd : digVal a c + 1 ≤ (a + 1) * 10 := by
      have := h.1
      simp only [isDig, Bool.and_eq_true, decide_eq_true_eq] at this
      unfold digVal; omega
    calc (digVal a c + 1) * 10 ^ t.length ≤ ((a + 1) * 10) * 10 ^ t.length := Nat.mul_le_mul_right _ hd
      _ = (a + 1) * 10 ^ (t.length + 1) := by rw [Nat.pow_succ, Nat.mul_assoc, Nat.mul_comm 10]

def NumRes : Option Int → Value
  | none => .tuple #[.int .i64 0, .bool false]
  | some v => .tuple #[.int .i64 v, .bool true]

theorem take_snoc_digits (l : Bs) (i : Nat) (c : UInt8) (h : l[i]? = some c) : l.take (i + 1) = l.take i ++ [c] := by
  obtain ⟨hi, rfl⟩ := List.getElem?_eq_some_iff.1 h
  rw [List.take_succ_eq_append_getElem hi]

def NumPost (w : World) (l : Bs) (e : Ending) (w' : World) : Prop := e = .returned (NumRes (numL l)) ∧ Mod [] w w'
theorem num_none {w w' : World} {l : Bs} {e : Ending} (h : numL l = none) (he : e = .returned (.tuple #[.int .i64 0, .bool false])) (hm : Mod [] w w') : NumPost w l e w' := by
  unfold NumPost; rw [h]; exact ⟨he, hm⟩
theorem num_some {w w' : World} {l : Bs} {e : Ending} {x : Int} (h : numL l = some x) (he : e = .returned (.tuple #[.int .i64 x, .bool true])) (hm : Mod [] w w') : NumPost w l e w' := by
  unfold NumPost; rw [h]; exact ⟨he, hm⟩
/-- What holds at the head of a round: so many digits have been read. -/
def Numbering (w : World) (D : ByteArray) (i n : Nat) (wr : World) : Prop :=
  i ≤ D.size ∧ n = (D.data.toList.take i).foldl digVal 0 ∧ (D.data.toList.take i).all isDig = true ∧ wr.heap[w.heap.size]? = some (.stringIter D i) ∧ Mod [] w wr

set_option maxRecDepth 100000 in
set_option maxHeartbeats 4000000 in
theorem number_walk (w : World) (s : ByteArray) :
    Calls Tryz.prog 93 #[.string s] w (NumPost w s.data.toList) := by
  obtain ⟨D, hD⟩ : ∃ D : ByteArray, D.data.toList = numDigits s.data.toList := ⟨⟨(numDigits s.data.toList).toArray⟩, by simp⟩
  have HT := Lib.hid (fun W => trim_of s D hD W)
  have hDs : D.size ≤ s.size := by rw [Lib.size_eq, Lib.size_eq, hD]; exact digits_len _
  have HDl := Lib.hid (show D.size = D.data.toList.length from Lib.size_eq D)
  have HN := numL_eq s.data.toList
  rw [← hD] at HN
  by_cases hA : D.data.toList = []
  · rw [if_pos (.inl hA)] at HN
    have HN := Lib.hid HN
    have he : D.toList.isEmpty = true := by rw [Lib.toList_data, hA]; rfl
    clear hA hD
    go_enter Tryz.func93, Tryz.ntmps93
    go_wp2_with fail
    refine (HT.out _).mono ?_
    rintro e w' ⟨rfl, rfl⟩
    go_wp2
    go_ret2
    exact num_none HN.out rfl (Mod.refl _ _)
  · have he : D.toList.isEmpty = false := by rw [Lib.toList_data]; simpa using hA
    by_cases hB : 13 < D.data.toList.length
    · rw [if_pos (.inr (.inl hB))] at HN
      have HN := Lib.hid HN
      have hB2 : 13 < D.size := by rw [HDl.out]; exact hB
      clear hA hB hD
      go_enter Tryz.func93, Tryz.ntmps93
      go_wp2_with fail
      refine (HT.out _).mono ?_
      rintro e w' ⟨rfl, rfl⟩
      go_wp2
      go_ret2
      exact num_none HN.out rfl (Mod.refl _ _)
    · have hB2 : ¬ 13 < D.size := by rw [HDl.out]; exact hB
      have hpos : 0 < D.size := by
        rw [HDl.out]; exact List.length_pos_iff.2 hA
      obtain ⟨c0, hc0⟩ : ∃ c, D.data.toList[0]? = some c := ⟨_, byte_at D 0 hpos⟩
      have hce : D[0]'hpos = c0 := by
        have := byte_at D 0 hpos
        rw [hc0] at this; exact (Option.some.inj this).symm
      have hhd : D.data.toList.head? = some c0 := by rw [← hc0, List.head?_eq_getElem?]
      by_cases hC : c0 = 48 ∧ s.data.toList ≠ [48]
      · rw [if_pos (.inr (.inr ⟨by rw [hhd, hC.1], hC.2⟩))] at HN
        have HN := Lib.hid HN
        obtain ⟨rfl, hC2⟩ := hC
        have hne : (s.toList == [48]) = false := by rw [Lib.toList_data, beq_eq_false_iff_ne]; exact hC2
        clear hA hB hD hc0 hhd hC2
        go_enter Tryz.func93, Tryz.ntmps93
        go_wp2_with fail
        refine (HT.out _).mono ?_
        rintro e w' ⟨rfl, rfl⟩
        go_wp2
        go_ret2
        exact num_none HN.out rfl (Mod.refl _ _)
      · have HN' : numL s.data.toList = _ := HN
        rw [if_neg (by
          rintro (h | h | h)
          · exact hA h
          · exact hB h
          · rw [hhd] at h; exact hC ⟨Option.some.inj h.1, h.2⟩)] at HN'
        have HN2 := Lib.hid HN'
        clear HN HN'
        have hDe : D.data.toList = s.data.toList ↔ s.data.toList.head? ≠ some 45 := by rw [hD, digits_eq]
        have HDe := Lib.hid hDe
        have hcs : ((c0.toNat : Int) == 48) = false ∨ ((s.toList == [48]) = true ∧ c0 = 48) := by
          by_cases h : c0 = 48
          · right
            refine ⟨?_, h⟩
            rw [Lib.toList_data, beq_iff_eq]
            exact Classical.byContradiction fun h2 => hC ⟨h, h2⟩
          · left
            rw [beq_eq_false_iff_ne]; intro e; exact h (UInt8.toNat_inj.1 (by simp; omega))
        clear hA hB hD hc0 hhd hC hDe
        rcases hcs with h48 | ⟨h48, rfl⟩
        all_goals
          go_enter Tryz.func93, Tryz.ntmps93
          go_wp2_with fail
          refine (HT.out _).mono ?_
          rintro e w' ⟨rfl, rfl⟩
          go_wp2
          go_loopw [5] (fun s5 wr => ∃ (i n : Nat), s5 = .int .i64 n ∧ Numbering _ D i n wr) (fun _ wr => D.size - wr.iterPos w'.heap.size)
          case atStart => exact ⟨0, 0, rfl, by omega, rfl, rfl, World.iter_heap _ _ 0, (Mod.refl _ _).alloc _⟩
          case round =>
            obtain ⟨i, n, rfl, hi, hnn, hall, hit, hm⟩ := hrel
            have hlt := (Array.getElem?_eq_some_iff.1 hit).1
            by_cases hil : i < D.size
            · obtain ⟨c, hc⟩ : ∃ c, D.data.toList[i]? = some c := ⟨_, byte_at D i hil⟩
              have hce2 : D[i]'hil = c := by
                have := byte_at D i hil
                rw [hc] at this; exact (Option.some.inj this).symm
              obtain ⟨v, hv⟩ : ∃ v, (Utf8.decode D i).1 = v := ⟨_, rfl⟩
              have hvc : (c.toNat < 128 → v = c.toNat ∧ (Utf8.decode D i).2 = 1) ∧ (128 ≤ c.toNat → 128 ≤ v) := by
                constructor
                · intro hlo
                  rw [← hv, decode_ascii _ i hil (by rw [hce2]; exact hlo), hce2]; exact ⟨rfl, rfl⟩
                · intro hhi
                  rw [← hv]; exact (decode_high _ i hil (by rw [hce2]; exact hhi)).1
              obtain ⟨W1, hW1⟩ : ∃ W1, wr.iterAt w'.heap.size D (i + (Utf8.decode D i).2) = W1 := ⟨_, rfl⟩
              have hit1 := Lib.iterAt_heap wr w'.heap.size D i (i + (Utf8.decode D i).2) hit
              have hm1 := hm.iterAt (k := w'.heap.size) (Nat.le_refl _) D (i + (Utf8.decode D i).2)
              rw [hW1] at hit1 hm1
              have hnx : ∀ ty, (Instr.next (.pointer (some ⟨w'.heap.size, 0, none⟩)) true ty).run Tryz.prog wr = .ok (.tuple #[.bool true, .int .i64 i, .int .i32 v]) W1 := fun ty => by
                rw [Lib.run_next_any_at wr w'.heap.size _ i ty hit hil, hv, hW1]
              have hts := take_snoc_digits _ i c hc
              cases hdg : isDig c with
              | true =>
                have hd2 : 48 ≤ c.toNat ∧ c.toNat ≤ 57 := by simpa [isDig] using hdg
                obtain ⟨rfl, hw1⟩ := hvc.1 (by omega)
                rw [hw1] at hit1
                have hnb : n ≤ 999999999999 := by
                  have h1 := foldl_digVal_lt (D.data.toList.take i) 0 hall
                  rw [← hnn] at h1
                  have h2 : (D.data.toList.take i).length ≤ 12 := by rw [List.length_take]; omega
                  have h3 : (10 : Nat) ^ (D.data.toList.take i).length ≤ 10 ^ 12 := Nat.pow_le_pow_right (by omega) h2
                  omega
                have h48' := hd2.1
                have h57 := hd2.2
                have hpos2 : World.iterPos W1 w'.heap.size = i + 1 := by simp [World.iterPos, hit1]
                have hpos1 : World.iterPos wr w'.heap.size = i := by simp [World.iterPos, hit]
                have H := Lib.hid (And.intro hit1 (And.intro hm1 (And.intro hnn (And.intro hall (And.intro hts (And.intro hdg (And.intro hpos1 hpos2)))))))
                clear hit1 hm1 hnn hall hts hdg hpos1 hpos2 hW1 hw1 hvc hv hce2 hc hit hm hd2
                go_wp2
                go_roundw
                case rel =>
                  obtain ⟨hit1, hm1, hnn, hall, hts, hdg, _, _⟩ := H.out
                  refine ⟨i + 1, digVal n c, by unfold digVal; go_num, hil, ?_, ?_, hit1, hm1⟩
                  · rw [hts, List.foldl_append, ← hnn]; rfl
                  · rw [hts, List.all_append, hall]; simp [hdg]
                case measure => 
                  obtain ⟨_, _, _, _, _, _, h1, h2⟩ := H.out
                  rw [h1, h2]; omega
              | false =>
                have hnone : numL s.data.toList = none := by
                  rw [HN2.out, if_neg]
                  intro h
                  have := List.all_eq_true.1 h c (List.mem_of_getElem? hc)
                  rw [hdg] at this; cases this
                have hv2 : v < 48 ∨ 57 < v := by
                  rcases Nat.lt_or_ge c.toNat 128 with h | h
                  · have := (hvc.1 h).1
                    simp [isDig] at hdg
                    omega
                  · have := hvc.2 h; omega
                have H := Lib.hid (And.intro hnone hm1)
                clear hit1 hm1 hnn hall hts hdg hW1 hvc hv hce2 hc hit hm hnone
                rcases hv2 with hlo | hhi
                all_goals
                  go_wp2
                  go_ret2
                  exact num_none H.out.1 rfl H.out.2
            · obtain rfl : i = D.size := by omega
              have hnx : ∀ ty, (Instr.next (.pointer (some ⟨w'.heap.size, 0, none⟩)) true ty).run Tryz.prog wr = _ := fun ty => Lib.run_next_end_at wr w'.heap.size D D.size ty hit (by omega)
              rw [List.take_of_length_le (by rw [← HDl.out]; exact Nat.le_refl _)] at hnn hall
              have hnl := HN2.out
              rw [if_pos hall, ← hnn] at hnl
              unfold maxN at hnl
              by_cases hmx : 1099511627776 < n
              · rw [if_pos hmx] at hnl
                have H := Lib.hid (And.intro hnl hm)
                clear hnl hm hnn hall hit hil hi
                go_wp2
                go_ret2
                exact num_none H.out.1 rfl H.out.2
              · rw [if_neg hmx] at hnl
                by_cases hsg : s.data.toList.head? = some 45
                · rw [if_pos hsg] at hnl
                  have hne : (D.toList == s.toList) = false := by
                    rw [Lib.toList_data, Lib.toList_data, beq_eq_false_iff_ne]
                    exact fun h => HDe.out.1 h hsg
                  have H := Lib.hid (And.intro hnl hm)
                  clear hnl hm hnn hall hit hil hi hsg
                  go_wp2
                  go_ret2
                  exact num_some H.out.1 rfl H.out.2
                · rw [if_neg hsg] at hnl
                  have hne : (D.toList == s.toList) = true := by
                    rw [Lib.toList_data, Lib.toList_data, beq_iff_eq]
                    exact HDe.out.2 hsg
                  have H := Lib.hid (And.intro hnl hm)
                  clear hnl hm hnn hall hit hil hi hsg
                  go_wp2
                  go_ret2
                  exact num_some H.out.1 rfl H.out.2
end Go.Proofs.YtjieelmbgfnllaaGreatDoor
