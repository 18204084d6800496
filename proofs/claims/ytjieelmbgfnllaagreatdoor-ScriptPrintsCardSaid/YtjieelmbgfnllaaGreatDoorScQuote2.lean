/- A quoted text ((*reader).quote): what it hands back. Conditions: a line of at most 2^40 bytes. -/
import Derived.Test.YtjieelmbgfnllaaGreatDoorScQuote
namespace Go.Proofs.YtjieelmbgfnllaaGreatDoor
open Go.RowKit Scr

/-- What holds at the head of a round of quote's loop: so much has been read. -/
def Quoting (w : World) (r : Nat) (line : ByteArray) (a p : Nat) (acc : List UInt8) (v : Value) (wr : World) : Prop :=
  wr.ownsRow (w.heap.size + 2) 5 1 v acc.length (Lib.byteCells acc) ∧
  Blk wr w.heap.size 145 #[.int .i64 0, .int .i64 0, .string ⟨#[]⟩] ∧ Blk wr (w.heap.size + 1) 145 #[.int .i64 2, .int .i64 p, .string ⟨#[]⟩] ∧
  Blk wr r 103 #[.string line, .int .i64 a] ∧ Mod [] w wr
/-- What is still to be read, and what has been. -/
def QuoteAt (line : ByteArray) (p j : Nat) (acc : List UInt8) : Prop :=
  acc.length + p + 1 ≤ j ∧ quoteL (line.data.toList.drop (p + 1)) = (quoteL (line.data.toList.drop j)).map fun q => (acc ++ q.1, q.2 + (j - (p + 1)))

theorem QuoteAt.start (line : ByteArray) (p : Nat) : QuoteAt line p (p + 1) [] := by
  refine ⟨by simp, ?_⟩
  cases quoteL (line.data.toList.drop (p + 1)) <;> simp
theorem QuoteAt.plain {line : ByteArray} {p j : Nat} {acc : List UInt8} {c : UInt8} (h : QuoteAt line p j acc) (hc : line.data.toList[j]? = some c) (h34 : c ≠ 34) (h92 : c ≠ 92) (hlo : ¬ c.toNat < 32) (hhi : ¬ 126 < c.toNat) :
    QuoteAt line p (j + 1) (acc ++ [c]) := by
  refine ⟨by have := h.1; simp; omega, ?_⟩
  rw [h.2, drop_cons hc, quoteL.eq_def]
  simp only []
  rw [if_neg h34, if_neg (by omega), if_pos h92]
  cases quoteL (line.data.toList.drop (j + 1)) with
  | none => rfl
  | some q =>
    have := h.1
    simp; omega
theorem QuoteAt.esc {line : ByteArray} {p j : Nat} {acc : List UInt8} {x : UInt8} {n : Nat} (h : QuoteAt line p j acc) (hc : line.data.toList[j]? = some 92) (he : escapeL (line.data.toList.drop (j + 1)) = some (x, n)) :
    QuoteAt line p (j + n + 1) (acc ++ [x]) := by
  refine ⟨by have := h.1; simp; omega, ?_⟩
  rw [h.2, drop_cons hc, quoteL_escape, he]
  simp only []
  rw [List.drop_drop, show j + 1 + n = j + n + 1 from by omega]
  cases quoteL (line.data.toList.drop (j + n + 1)) with
  | none => rfl
  | some q =>
    have := h.1
    simp; omega
theorem QuoteAt.escBad {line : ByteArray} {p j : Nat} {acc : List UInt8} (h : QuoteAt line p j acc) (hc : line.data.toList[j]? = some 92) (he : escapeL (line.data.toList.drop (j + 1)) = none) :
    quoteL (line.data.toList.drop (p + 1)) = none := by
  rw [h.2, drop_cons hc, quoteL_escape, he]; rfl
theorem QuoteAt.bad {line : ByteArray} {p j : Nat} {acc : List UInt8} {c : UInt8} (h : QuoteAt line p j acc) (hc : line.data.toList[j]? = some c) (h34 : c ≠ 34) (hb : c.toNat < 32 ∨ 126 < c.toNat) :
    quoteL (line.data.toList.drop (p + 1)) = none := by
  rw [h.2, drop_cons hc, quoteL.eq_def]
  simp only []
  rw [if_neg h34, if_pos hb]; rfl
theorem QuoteAt.ends {line : ByteArray} {p j : Nat} {acc : List UInt8} (h : QuoteAt line p j acc) (hc : line.size ≤ j) :
    quoteL (line.data.toList.drop (p + 1)) = none := by
  rw [h.2, List.drop_eq_nil_of_le (by rw [← Lib.size_eq]; exact hc)]; rfl
theorem QuoteAt.done {line : ByteArray} {p j : Nat} {acc : List UInt8} (h : QuoteAt line p j acc) (hc : line.data.toList[j]? = some 34) :
    quoteL (line.data.toList.drop (p + 1)) = some (acc, j - p) := by
  rw [h.2, drop_cons hc, quoteL.eq_def]
  have := h.1
  simp; omega
theorem escape_len {l : Bs} {x : UInt8} {n : Nat} (h : escapeL l = some (x, n)) : 1 ≤ n ∧ n ≤ l.length := by
  unfold escapeL at h
  split at h
  · cases h
  · split at h
    · cases h; simp
    · split at h
      · split at h
        · split at h
          · cases h; simp
          · cases h
        · cases h
      · cases h

theorem quote_bad {w w' : World} {r : Nat} {line : ByteArray} {a p : Nat} {e : Ending} (hq : quoteL (line.data.toList.drop (p + 1)) = none)
    (he : e = .returned (.agg #[.int .i64 2, .int .i64 p, .string ⟨#[]⟩])) (hb : Blk w' r 103 #[.string line, .int .i64 a]) (hm : Mod [r] w w') : QuotePost w r line a p e w' := by
  unfold QuotePost; rw [hq]; exact ⟨he, hb, hm⟩
theorem quote_good {w w' : World} {r : Nat} {line : ByteArray} {a p j : Nat} {acc : List UInt8} {e : Ending} (hq : quoteL (line.data.toList.drop (p + 1)) = some (acc, j - p)) (hj : p < j) (hjl : j < line.size)
    (he : e = .returned (.agg #[.int .i64 1, .int .i64 p, .string ⟨acc.toArray⟩])) (hb : Blk w' r 103 #[.string line, .int .i64 ((j : Int) + 1)]) (hm : Mod [r] w w') : QuotePost w r line a p e w' := by
  unfold QuotePost; rw [hq]
  simp only []
  have e2 : p + 1 + (j - p) = j + 1 := by omega
  rw [e2]
  exact ⟨he, hb, by omega, hm⟩

set_option maxRecDepth 100000 in
set_option maxHeartbeats 4000000 in
theorem quote_walk : QuoteSaid := by
  intro w r line a p q hqp hb hpl hn
  subst hqp
  obtain ⟨i0, hi, hz0, hz1, hz2⟩ := info_parts info_u8
  have HI := Lib.hid (And.intro hi (And.intro hz0 (And.intro hz1 hz2)))
  clear hi hz0 hz1 hz2
  have hlt := hb.lt
  have Hlen := Lib.hid (Lib.size_eq line)
  go_enter Tryz.func162, Tryz.ntmps162
  go_wp2
  go_loopw [6, 7] (fun v s7 wr => ∃ (j : Nat) (acc : List UInt8), s7 = .int .i64 j ∧ j ≤ line.size ∧ QuoteAt line p j acc ∧ Quoting w r line a p acc v wr) (fun _ s7 _ => line.size - (RowKit.intOf s7).toNat)
  case atStart => 
    refine ⟨p + 1, [], by go_num, by omega, QuoteAt.start _ _, ?_⟩
    exact ⟨⟨by simp [Lib.byteCells], .inl ⟨rfl, rfl⟩⟩, (Blk.new w _ _).alloc _, by simpa using Blk.new (w.alloc (.cells #[.int .i64 0, .int .i64 0, .string ⟨#[]⟩] 145)) 145 #[.int .i64 2, .int .i64 p, .string ⟨#[]⟩], (hb.alloc _).alloc _, ((Mod.refl [] w).alloc _).alloc _⟩
  case round =>
    obtain ⟨j, acc, rfl, hj, hqa, hown, hres, hbad, hrd, hm⟩ := hrel
    have H := Lib.hid (And.intro hqa (And.intro hown (And.intro hres (And.intro hbad (And.intro hrd hm)))))
    have hc0 := hrd.cell 0
    have hc1 := hrd.cell 1
    have hf := hrd.frozen 1
    have hr0 := hres.cell 0
    have hr1 := hres.cell 1
    have hr2 := hres.cell 2
    have hg0 := hres.frozen 0
    have hg1 := hres.frozen 1
    have hg2 := hres.frozen 2
    have hd0 := hbad.cell 0
    have hd1 := hbad.cell 1
    have hd2 := hbad.cell 2
    have hsz := hbad.lt
    simp at hc0 hc1 hr0 hr1 hr2 hd0 hd1 hd2
    clear hqa hown hres hbad hrd hm
    by_cases hjl : j < line.size
    · obtain ⟨c, hc⟩ : ∃ c, line.data.toList[j]? = some c := ⟨_, List.getElem?_eq_getElem (by rw [← Hlen.out]; omega)⟩
      have hce : line[j]'hjl = c := by
        have := byte_at line j hjl
        rw [hc] at this; exact (Option.some.inj this).symm
      have HC := Lib.hid hc
      clear hc
      by_cases h34 : c = 34
      · subst h34
        have hcv : ∀ u, (convert 78 9 u6).run Tryz.prog (wr.setCell ⟨r, 1, none⟩ u) = .ok (.string ⟨acc.toArray⟩) (wr.setCell ⟨r, 1, none⟩ u) := fun u => conv_own (ownsRow_setCell_below H.out.2.1 (by simp; omega) u)
        go_wp2
        obtain ⟨hqa, hown, hres, hbad, hrd, hm⟩ := H.out
        refine ret_cell Tryz.results162 rfl ((((hres.far (p := ⟨r, 1, none⟩) (by simp; omega) _).set_ 0 _).set_ 1 _).set_ 2 _) Tryz.underlying145 rfl (by kernel_rfl) rfl ?_
        refine quote_good (hqa.done HC.out) (by have := hqa.1; omega) hjl rfl ((((hrd.set_ 1 _).far (p := ⟨w.heap.size, 0, none⟩) (by simp; omega) _).far (p := ⟨w.heap.size, 1, none⟩) (by simp; omega) _).far (p := ⟨w.heap.size, 2, none⟩) (by simp; omega) _) ?_
        exact ((((hm.mono (by simp)).setCell (.inl (by simp)) _).setCell (.inr (by simp)) _).setCell (.inr (by simp)) _).setCell (.inr (by simp)) _
      · have k34 : ((c.toNat : Int) == 34) = false := by
          rw [beq_eq_false_iff_ne]; intro e; exact h34 (UInt8.toNat_inj.1 (by simp; omega))
        by_cases hbd : c.toNat < 32 ∨ 126 < c.toNat
        · have HQB := Lib.hid (H.out.1.bad HC.out h34 hbd)
          clear h34
          rcases hbd with hlo | hhi
          all_goals
            go_wp2
            obtain ⟨hqa, hown, hres, hbad, hrd, hm⟩ := H.out
            refine ret_cell Tryz.results162 rfl (((hres.set_ 0 _).set_ 1 _).set_ 2 _) Tryz.underlying145 rfl (by kernel_rfl) rfl ?_
            refine quote_bad HQB.out rfl (((hrd.far (p := ⟨w.heap.size, 0, none⟩) (by simp; omega) _).far (p := ⟨w.heap.size, 1, none⟩) (by simp; omega) _).far (p := ⟨w.heap.size, 2, none⟩) (by simp; omega) _) ?_
            exact (((hm.mono (by simp)).setCell (.inr (by simp)) _).setCell (.inr (by simp)) _).setCell (.inr (by simp)) _
        · have hlo : ¬ c.toNat < 32 := fun h => hbd (.inl h)
          have hhi : ¬ 126 < c.toNat := fun h => hbd (.inr h)
          by_cases h92 : c = 92
          · subst h92
            have hE := escape_walk wr (line.extract (j + 1) line.size) (by rw [ext_size]; omega)
            rw [ext_list] at hE
            unfold EscPost at hE
            rcases hes : escapeL (line.data.toList.drop (j + 1)) with _ | ⟨x, n⟩
            · rw [hes] at hE
              have HE := Lib.hid hE
              have HQB := Lib.hid (H.out.1.escBad HC.out hes)
              clear hE hes h34 hbd hlo hhi
              go_wp2_with fail
              refine HE.out.mono ?_
              rintro e w2 ⟨rfl, nd, rfl⟩
              go_wp2
              obtain ⟨hqa, hown, hres, hbad, hrd, hm⟩ := H.out
              refine ret_cell Tryz.results162 rfl ((((hres.drewN nd).set_ 0 _).set_ 1 _).set_ 2 _) Tryz.underlying145 rfl (by kernel_rfl) rfl ?_
              refine quote_bad HQB.out rfl ((((hrd.drewN nd).far (p := ⟨w.heap.size, 0, none⟩) (by simp; omega) _).far (p := ⟨w.heap.size, 1, none⟩) (by simp; omega) _).far (p := ⟨w.heap.size, 2, none⟩) (by simp; omega) _) ?_
              exact ((((hm.mono (by simp)).drewN nd).setCell (.inr (by simp)) _).setCell (.inr (by simp)) _).setCell (.inr (by simp)) _
            · rw [hes] at hE
              have HE := Lib.hid hE
              have HQN := Lib.hid (H.out.1.esc HC.out hes)
              have hnl := escape_len hes
              rw [List.length_drop, ← Hlen.out] at hnl
              have hn0 : ((n : Int) == 0) = false := by rw [beq_eq_false_iff_ne]; omega
              have hn1 := hnl.1
              have hn2 := hnl.2
              have hal : acc.length ≤ 1099511627776 := by have := H.out.1.1; omega
              clear hE hes h34 hbd hlo hhi hnl
              go_wp2_with fail
              refine HE.out.mono ?_
              rintro e w2 ⟨rfl, nd, rfl⟩
              go_wp2_with (at_builtin; refine wpList_append_own _ rfl _ _ 78 rfl (w.heap.size + 2) 5 i0 (.int .u8 0) 1 1 Tryz.underlying78 HI.out.1 HI.out.2.1 HI.out.2.2.1 HI.out.2.2.2 rfl (by decide) _ _ _ rfl ((own_drewN H.out.2.1 nd).alloc _) ⟨wr.heap.size, 0, none⟩ 1 1 [.int .u8 x.toNat] rfl rfl ?c1 ?c2 ?c3 ?c4 ?c5 ?_)
              case c1 => exact cell_one_new _ _ _
              case c2 => intro u hu; simp at hu; subst hu; rfl
              case c3 => unfold maxLen; omega
              case c4 => omega
              case c5 => simp; omega
              intro v2 w2 hown2 hg2 _
              have HG := Lib.hid (And.intro hown2 hg2)
              clear hown2 hg2
              go_wp2
              go_roundw
              case rel =>
                obtain ⟨hqa, hown, hres, hbad, hrd, hm⟩ := H.out
                obtain ⟨hown2, hg2⟩ := HG.out
                have hgr : ∀ k, k < wr.heap.size + 1 → u6.ownBlock ≠ some k → w2.heap[k]? = ((wr.drewN nd).alloc (.cells #[.int .u8 x.toNat] 5)).heap[k]? := fun k hk hne => hg2.block k (by simpa using hk) (fun e => hne e.symm)
                refine ⟨j + n + 1, acc ++ [x], by go_num, by omega, HQN.out, ?_⟩
                have hne : ∀ g cs, Blk wr g 145 cs → u6.ownBlock ≠ some g := fun g cs h => own_blk_ne hown h (by decide)
                have hne2 : u6.ownBlock ≠ some r := own_blk_ne hown hrd (by decide)
                refine ⟨by rw [Lib.byteCells_append, List.length_append]; exact hown2, (hgr _ (by omega) (hne _ _ hres)).trans ((hres.drewN nd).alloc _), (hgr _ (by omega) (hne _ _ hbad)).trans ((hbad.drewN nd).alloc _), (hgr _ (by omega) hne2).trans ((hrd.drewN nd).alloc _), ?_⟩
                exact ((hm.drewN nd).alloc _).grown hg2 (fun k hk => .inr (by have := own_ge hown hk; omega))
              case measure => simp [RowKit.intOf]; omega
          · have k92 : ((c.toNat : Int) != 92) = true := by
              simp only [bne_iff_ne]; intro e; exact h92 (UInt8.toNat_inj.1 (by simp; omega))
            have HQN := Lib.hid (H.out.1.plain HC.out h34 h92 hlo hhi)
            have hal : acc.length ≤ 1099511627776 := by have := H.out.1.1; omega
            clear h34 h92 hbd
            go_wp2_with (at_builtin; refine wpList_append_own _ rfl _ _ 78 rfl (w.heap.size + 2) 5 i0 (.int .u8 0) 1 1 Tryz.underlying78 HI.out.1 HI.out.2.1 HI.out.2.2.1 HI.out.2.2.2 rfl (by decide) _ _ _ rfl (H.out.2.1.alloc _) ⟨wr.heap.size, 0, none⟩ 1 1 [.int .u8 c.toNat] rfl rfl ?c1 ?c2 ?c3 ?c4 ?c5 ?_)
            case c1 => exact cell_one_new _ _ _
            case c2 => intro u hu; simp at hu; subst hu; rfl
            case c3 => unfold maxLen; omega
            case c4 => omega
            case c5 => simp; omega
            intro v2 w2 hown2 hg2 _
            have HG := Lib.hid (And.intro hown2 hg2)
            clear hown2 hg2
            go_wp2
            go_roundw
            case rel =>
              obtain ⟨hqa, hown, hres, hbad, hrd, hm⟩ := H.out
              obtain ⟨hown2, hg2⟩ := HG.out
              have hgr : ∀ k, k < wr.heap.size + 1 → u6.ownBlock ≠ some k → w2.heap[k]? = (wr.alloc (.cells #[.int .u8 c.toNat] 5)).heap[k]? := fun k hk hne => hg2.block k (by simpa using hk) (fun e => hne e.symm)
              refine ⟨j + 1, acc ++ [c], by go_num, by omega, HQN.out, ?_⟩
              have hne : ∀ g cs, Blk wr g 145 cs → u6.ownBlock ≠ some g := fun g cs h => own_blk_ne hown h (by decide)
              have hne2 : u6.ownBlock ≠ some r := own_blk_ne hown hrd (by decide)
              refine ⟨by rw [Lib.byteCells_append, List.length_append]; exact hown2, (hgr _ (by omega) (hne _ _ hres)).trans (hres.alloc _), (hgr _ (by omega) (hne _ _ hbad)).trans (hbad.alloc _), (hgr _ (by omega) hne2).trans (hrd.alloc _), ?_⟩
              exact (hm.alloc _).grown hg2 (fun k hk => .inr (by have := own_ge hown hk; omega))
            case measure => simp [RowKit.intOf]; omega
    · go_wp2
      obtain ⟨hqa, hown, hres, hbad, hrd, hm⟩ := H.out
      refine ret_cell Tryz.results162 rfl (((hres.set_ 0 _).set_ 1 _).set_ 2 _) Tryz.underlying145 rfl (by kernel_rfl) rfl ?_
      refine quote_bad (hqa.ends (by omega)) rfl (((hrd.far (p := ⟨w.heap.size, 0, none⟩) (by simp; omega) _).far (p := ⟨w.heap.size, 1, none⟩) (by simp; omega) _).far (p := ⟨w.heap.size, 2, none⟩) (by simp; omega) _) ?_
      exact (((hm.mono (by simp)).setCell (.inr (by simp)) _).setCell (.inr (by simp)) _).setCell (.inr (by simp)) _
end Go.Proofs.YtjieelmbgfnllaaGreatDoor
