/- quoting tells a quoted text's form. Conditions: a text of at most 2^30 bytes. -/
import Derived.Test.YtjieelmbgfnllaaGreatDoorScBuild
namespace Go.Proofs.YtjieelmbgfnllaaGreatDoor
open Go.RowKit Scr

theorem quoteB_le (c : UInt8) : (quoteB c).length ≤ 4 := by
  unfold quoteB; split
  · simp
  · split <;> simp
theorem quotes_le : ∀ l : Bs, (l.flatMap quoteB).length ≤ 4 * l.length
  | [] => Nat.le_refl _
  | c :: t => by rw [List.flatMap_cons, List.length_append, List.length_cons]; have := quoteB_le c; have := quotes_le t; omega
theorem quoting_le (l : Bs) : (quotingL l).length ≤ 4 * l.length + 2 := by unfold quotingL; have := quotes_le l; simp only [List.length_cons, List.length_append, List.length_nil]; omega
/-- What was laid so far of the first j bytes. -/
def quoted (s : ByteArray) (j : Nat) : Bs := 34 :: (s.data.toList.take j).flatMap quoteB
theorem quoted_le (s : ByteArray) (j : Nat) : (quoted s j).length ≤ 4 * s.size + 1 := by
  unfold quoted
  have := quotes_le (s.data.toList.take j)
  have h2 : (s.data.toList.take j).length ≤ s.size := by rw [List.length_take, Lib.size_eq]; omega
  simp only [List.length_cons]; omega
theorem quoted_step (s : ByteArray) (j : Nat) (c : UInt8) (h : s.data.toList[j]? = some c) : quoted s (j + 1) = quoted s j ++ quoteB c := by
  unfold quoted
  rw [take_snoc_digits _ _ _ h, List.flatMap_append]
  simp
theorem quoted_end (s : ByteArray) (j : Nat) (h : s.size ≤ j) : quoted s j ++ [34] = quotingL s.data.toList := by
  unfold quoted quotingL
  rw [List.take_of_length_le (by rw [← Lib.size_eq]; exact h)]; rfl
def Quotes (w : World) (s : ByteArray) (j : Nat) (v : Value) (wr : World) : Prop :=
  j ≤ s.size ∧ wr.ownsRow w.heap.size 5 1 v (quoted s j).length (Lib.byteCells (quoted s j)) ∧ Mod [] w wr
theorem digs_fin : ∀ n : Fin 16, ((⟨#[48, 49, 50, 51, 52, 53, 54, 55, 56, 57, 97, 98, 99, 100, 101, 102]⟩ : ByteArray)[n.val]'n.isLt) = digs.getD n.val 0 := by decide
theorem digs_at (x : Nat) (h : x < 16) (h2 : x < (⟨#[48, 49, 50, 51, 52, 53, 54, 55, 56, 57, 97, 98, 99, 100, 101, 102]⟩ : ByteArray).size) : ((⟨#[48, 49, 50, 51, 52, 53, 54, 55, 56, 57, 97, 98, 99, 100, 101, 102]⟩ : ByteArray)[x]'h2) = digs.getD x 0 := digs_fin ⟨x, h⟩


theorem bytes_one (l : Bs) : ∀ v ∈ Lib.byteCells l, v.oneCell' = true := by
  intro v hv
  obtain ⟨b, _, rfl⟩ := List.mem_map.1 hv
  rfl
/-- append of some bytes that lie in a new block. -/
theorem wp_bytes {ops : Array Oper} {rest : List Oper} {o : Oper} {a : Act} {w : World} {Q : Exit → Act → World → Prop} (hgd : o.guard = none) (sl x : Operand)
    (ho : o.op = .call { callee := .builtin .append, args := #[sl, x], argTypes := #[78, 78] })
    (lo : Nat) (v : Value) (acc : Bs) (hs : a.eval sl = v) (hown : w.ownsRow lo 5 1 v acc.length (Lib.byteCells acc)) (news : Bs) (W : World) (n c : Nat) (hx : a.eval x = .slice (some ⟨W.heap.size, 0, none⟩) n c) (hn : n = news.length)
    (hw : w = W.alloc (.cells (Lib.byteCells news).toArray 5)) (hl : acc.length + news.length ≤ 70368744177664) (hlo : lo ≤ W.heap.size)
    (h : ∀ A k c2 w', w'.ownsRow lo 5 1 (.slice A k c2) (acc ++ news).length (Lib.byteCells (acc ++ news)) → w.grownBy w' v.ownBlock → wpList Tryz.prog ops Q rest (a.put o.dst (.slice A k c2)) w') : wpList Tryz.prog ops Q (o :: rest) a w := by
  obtain ⟨i0, hi, hz0, hz1, hz2⟩ := info_parts info_u8
  refine wpList_append_own _ hgd sl x 78 ho lo 5 i0 (.int .u8 0) 1 1 Tryz.underlying78 hi hz0 hz1 hz2 rfl (by decide) v acc.length (Lib.byteCells acc) hs hown ⟨W.heap.size, 0, none⟩ n c (Lib.byteCells news) hx (by rw [Lib.byteCells_length, hn, Nat.mul_one])
    (by rw [hw]; exact cells_new W _ _) (bytes_one news) (by unfold maxLen; omega) (by omega) (by rw [hw]; simp; omega) (fun v' w' h1 h2 _ => ?_)
  obtain ⟨A, k, c2, rfl⟩ := own_slice h1
  exact h A k c2 w' (by rw [List.length_append, Lib.byteCells_append, ← hn]; exact h1) h2
theorem step_bytes {ops : Array Oper} {o : Oper} {a : Act} {w : World} {K : Act → World → Prop} {Q : Exit → Act → World → Prop} {E : Prop} (hgd : o.guard = none) (sl x : Operand)
    (ho : o.op = .call { callee := .builtin .append, args := #[sl, x], argTypes := #[78, 78] })
    (lo : Nat) (v : Value) (acc : Bs) (hs : a.eval sl = v) (hown : w.ownsRow lo 5 1 v acc.length (Lib.byteCells acc)) (news : Bs) (W : World) (n c : Nat) (hx : a.eval x = .slice (some ⟨W.heap.size, 0, none⟩) n c) (hn : n = news.length)
    (hw : w = (W.alloc (.cells (Lib.byteCells news).toArray 5)).drew) (hl : acc.length + news.length ≤ 70368744177664) (hlo : lo ≤ W.heap.size)
    (h : ∀ A k c2 w', w'.ownsRow lo 5 1 (.slice A k c2) (acc ++ news).length (Lib.byteCells (acc ++ news)) → w.grownBy w' v.ownBlock → K (a.put o.dst (.slice A k c2)) w') :
    if Region.wanted o (yielded ops a.tmps) = true then Oper.wp Tryz.prog o a w K Q else E := by
  obtain ⟨i0, hi, hz0, hz1, hz2⟩ := info_parts info_u8
  refine step_append_own hgd sl x 78 ho lo 5 i0 (.int .u8 0) 1 1 Tryz.underlying78 hi hz0 hz1 hz2 rfl (by decide) v acc.length (Lib.byteCells acc) hs hown ⟨W.heap.size, 0, none⟩ n c (Lib.byteCells news) hx (by rw [Lib.byteCells_length, hn, Nat.mul_one])
    (by rw [hw]; exact cells_new W _ _) (bytes_one news) (by unfold maxLen; omega) (by omega) (by rw [hw]; simp; omega) (fun A k c2 w' h1 h2 => ?_)
  exact h A k c2 w' (by rw [List.length_append, Lib.byteCells_append, ← hn]; exact h1) h2
theorem quotes_next {w wr w2 W : World} {s : ByteArray} {j : Nat} {v v' : Value} {c : UInt8} (hown : wr.ownsRow w.heap.size 5 1 v (quoted s j).length (Lib.byteCells (quoted s j))) (hm : Mod [] w wr) (hW : Mod [] wr W)
    (hq : quoted s (j + 1) = quoted s j ++ quoteB c) {news : Bs} (hn : quoteB c = news) (h2 : w2.ownsRow w.heap.size 5 1 v' ((quoted s j).length + news.length) (Lib.byteCells (quoted s j ++ news))) (hg : W.grownBy w2 v.ownBlock) (hj : j < s.size) : Quotes w s (j + 1) v' w2 := by
  refine ⟨by omega, by rw [hq, hn, List.length_append]; exact h2, (hm.trans hW).grown hg (fun k hk => .inr (own_ge hown hk))⟩

set_option maxRecDepth 100000 in
set_option maxHeartbeats 4000000 in
theorem quoting_walk (w : World) (s : ByteArray) (hs : s.size ≤ 1073741824) :
    Calls Tryz.prog 217 #[.string s] w fun e w' => e = .returned (.string ⟨(quotingL s.data.toList).toArray⟩) ∧ Mod [] w w' := by
  have Hlen := Lib.hid (Lib.size_eq s)
  go_enter Tryz.func217, Tryz.ntmps217
  go_wp2
  go_loopw [3, 9] (fun v s9 wr => ∃ j : Nat, s9 = .int .i64 j ∧ Quotes w s j v wr) (fun _ s9 _ => s.size - (RowKit.intOf s9).toNat)
  case atStart =>
    refine ⟨0, by go_num, Nat.zero_le _, ?_, (Mod.refl [] w).alloc _⟩
    refine ⟨rfl, .inr ⟨w.heap.size, 1, #[.int .u8 34], rfl, Nat.le_refl _, Blk.new _ _ _, Nat.le_refl _, by decide, rfl, rfl⟩⟩
  case round =>
    obtain ⟨j, rfl, hj, hown, hm⟩ := hrel
    have H := Lib.hid (And.intro hown hm)
    have hsz := hm.size
    have hql := quoted_le s j
    clear hown hm
    by_cases hjl : j < s.size
    · obtain ⟨c, hc⟩ : ∃ c, s.data.toList[j]? = some c := ⟨_, List.getElem?_eq_getElem (by rw [← Hlen.out]; omega)⟩
      have hce : s[j]'hjl = c := by
        have := byte_at s j hjl
        rw [hc] at this; exact (Option.some.inj this).symm
      have HQ := Lib.hid (quoted_step s j c hc)
      clear hc
      have hc256 : c.toNat < 256 := c.toNat_lt
      by_cases h1 : c = 34 ∨ c = 92
      · have HB := Lib.hid (show quoteB c = [92, c] by unfold quoteB; rw [if_pos h1])
        have ht : ((c.toNat : Int) == 34) = true ∨ ((c.toNat : Int) == 34) = false ∧ ((c.toNat : Int) == 92) = true := by
          rcases h1 with rfl | rfl
          · exact .inl rfl
          · exact .inr ⟨rfl, rfl⟩
        clear h1
        rcases ht with ht | ⟨ht, ht2⟩
        all_goals
          go_wp2_with (at_builtin; refine wp_bytes rfl _ _ rfl w.heap.size _ (quoted s j) rfl (H.out.1.alloc _) [92, c] wr 2 2 rfl rfl rfl (by simp; omega) hsz ?_)
          intro A k c2 w2 hown2 hg2
          have HG := Lib.hid (And.intro hown2 hg2)
          clear hown2 hg2
          go_wp2
          go_roundw
          case rel => exact ⟨j + 1, by go_num, quotes_next H.out.1 H.out.2 ((Mod.refl [] wr).alloc _) HQ.out HB.out HG.out.1 HG.out.2 hjl⟩
          case measure => simp [RowKit.intOf]; omega
      · have k34 : ((c.toNat : Int) == 34) = false := by
          rw [beq_eq_false_iff_ne]; intro e; exact h1 (.inl (UInt8.toNat_inj.1 (by simp; omega)))
        have k92 : ((c.toNat : Int) == 92) = false := by
          rw [beq_eq_false_iff_ne]; intro e; exact h1 (.inr (UInt8.toNat_inj.1 (by simp; omega)))
        by_cases h2 : c.toNat < 32 ∨ 126 < c.toNat
        · have HB := Lib.hid (show quoteB c = [92, 120, digs.getD (c.toNat / 16) 0, digs.getD (c.toNat % 16) 0] by unfold quoteB; rw [if_neg h1, if_pos h2])
          obtain ⟨x, hx⟩ : ∃ x : Nat, x = c.toNat / 16 := ⟨_, rfl⟩
          obtain ⟨y, hy⟩ : ∃ y : Nat, y = c.toNat % 16 := ⟨_, rfl⟩
          rw [← hx, ← hy] at HB
          have hx16 : x < 16 := by omega
          have hy16 : y < 16 := by omega
          have hwx : IntKind.u8.wrap ((c.toNat : Int) / 16) = (x : Int) := by rw [hx]; simp [IntKind.wrap, IntKind.bits, IntKind.signed]; omega
          have hwy : ((c.toNat : Int).tmod 16) = (y : Int) := by rw [hy, Int.tmod_eq_emod_of_nonneg (by omega)]; omega
          have hxI : (x : Int) < 16 := by omega
          have hyI : (y : Int) < 16 := by omega
          have hdx := digs_at x hx16
          have hdy := digs_at y hy16
          generalize digs.getD x 0 = dx at hdx HB
          generalize digs.getD y 0 = dy at hdy HB
          clear h1 hx hy
          have ht : ((c.toNat : Int) < 32) ∨ (¬ (c.toNat : Int) < 32 ∧ (126 : Int) < c.toNat) := by omega
          clear h2
          rcases ht with hlo | ⟨hlo, hhi⟩
          all_goals
            go_wp2
            go_region_law (refine step_bytes rfl _ _ rfl w.heap.size _ (quoted s j) rfl ((H.out.1.alloc _).drew) [92, 120, dx, dy] wr 4 4 rfl rfl rfl (by simp; omega) hsz ?_; intro A k c2 w2 hown2 hg2; have HG := Lib.hid (And.intro hown2 hg2); clear hown2 hg2)
            all_goals
              go_wp2
              go_roundw
              case rel => exact ⟨j + 1, by go_num, quotes_next H.out.1 H.out.2 (((Mod.refl [] wr).alloc _).drew) HQ.out HB.out (by rw [← List.length_append]; exact HG.out.1) HG.out.2 hjl⟩
              case measure => simp [RowKit.intOf]; omega
        · have HB := Lib.hid (show quoteB c = [c] by unfold quoteB; rw [if_neg h1, if_neg h2])
          have hlo : ¬ c.toNat < 32 := fun h => h2 (.inl h)
          have hhi : ¬ 126 < c.toNat := fun h => h2 (.inr h)
          clear h1 h2
          go_wp2_with (at_builtin; refine wp_bytes rfl _ _ rfl w.heap.size _ (quoted s j) rfl (H.out.1.alloc _) [c] wr 1 1 rfl rfl rfl (by simp; omega) hsz ?_)
          intro A k c2 w2 hown2 hg2
          have HG := Lib.hid (And.intro hown2 hg2)
          clear hown2 hg2
          go_wp2
          go_roundw
          case rel => exact ⟨j + 1, by go_num, quotes_next H.out.1 H.out.2 ((Mod.refl [] wr).alloc _) HQ.out HB.out HG.out.1 HG.out.2 hjl⟩
          case measure => simp [RowKit.intOf]; omega
    · go_wp2_with (at_builtin; refine wp_bytes rfl _ _ rfl w.heap.size _ (quoted s j) rfl (H.out.1.alloc _) [34] wr 1 1 rfl rfl rfl (by simp; omega) hsz ?_)
      intro A k c2 w2 hown2 hg2
      have hcv := conv_own (l := quoted s j ++ [34]) (by rw [List.length_append]; exact hown2)
      have hend := quoted_end s j (by omega)
      have HG := Lib.hid (And.intro hown2 hg2)
      clear hown2 hg2
      rw [hend] at hcv
      go_wp2
      go_ret
      exact ⟨rfl, (H.out.2.alloc _).grown HG.out.2 (fun k hk => .inr (own_ge H.out.1 hk))⟩
end Go.Proofs.YtjieelmbgfnllaaGreatDoor
