/- The reader's next thing: what (*reader).next hands back. Conditions: a line of at most 2^40 bytes. -/
import Derived.Test.YtjieelmbgfnllaaGreatDoorScWords
import Derived.Test.YtjieelmbgfnllaaGreatDoorScToks
import Derived.BigRegion
import Derived.Lib.Strings
namespace Go.Proofs.YtjieelmbgfnllaaGreatDoor
open Go.RowKit Scr Go.Lib

def encTok : Option Tok → Value
  | none => .agg #[.int .i64 0, .int .i64 0, .string ⟨#[]⟩]
  | some t => .agg #[.int .i64 t.kind, .int .i64 t.pos, .string ⟨t.text.toArray⟩]

/-- The reader in block r: so long is its line, and these things are left. -/
def RdT (w : World) (r n : Nat) (ts : List Tok) : Prop :=
  ∃ (line : ByteArray) (at_ : Nat), Blk w r 103 #[.string line, .int .i64 at_] ∧ at_ ≤ line.size ∧ line.size = n ∧ left line.data.toList at_ = ts

def NextPost (w : World) (r n : Nat) : List Tok → Ending → World → Prop
  | [], e, w' => e = .returned (.tuple #[encTok none, .bool false]) ∧ RdT w' r n [] ∧ Mod [r] w w'
  | t :: ts, e, w' => e = .returned (.tuple #[encTok (some t), .bool true]) ∧ RdT w' r n (if t.kind = 2 then t :: ts else ts) ∧ Mod [r] w w'

/-- What holds while blanks are passed over. -/
def Passing (w : World) (r : Nat) (line : ByteArray) (a : Nat) (i : Nat) (wr : World) : Prop :=
  wr.heap[w.heap.size + 1]? = some (.stringIter (line.extract a line.size) i) ∧ Blk wr w.heap.size 145 #[.int .i64 0, .int .i64 0, .string ⟨#[]⟩] ∧ Blk wr r 103 #[.string line, .int .i64 a] ∧ Mod [] w wr

theorem Passing.start {w : World} {r : Nat} {line : ByteArray} {a : Nat} (hb : Blk w r 103 #[.string line, .int .i64 a]) :
    Passing w r line a 0 ((w.alloc (.cells #[.int .i64 0, .int .i64 0, .string ⟨#[]⟩] 145)).drew.iter (line.extract a line.size) 0) := by
  refine ⟨?_, ((Blk.new w _ _).drew).alloc _, (hb.alloc _).drew.alloc _, (((Mod.refl [] w).alloc _).drew).alloc _⟩
  have := World.iter_heap (w.alloc (.cells #[.int .i64 0, .int .i64 0, .string ⟨#[]⟩] 145)).drew (line.extract a line.size) 0
  simpa using this
theorem Passing.lt {w wr : World} {r : Nat} {line : ByteArray} {a i : Nat} (h : Passing w r line a i wr) : w.heap.size + 1 < wr.heap.size := by
  have := h.1
  exact (Array.getElem?_eq_some_iff.1 this).1


/-- What (*reader).quote hands back at a quote. -/
def QuotePost (w : World) (r : Nat) (line : ByteArray) (a p : Nat) (e : Ending) (w' : World) : Prop :=
  match quoteL (line.data.toList.drop (p + 1)) with
  | none => e = .returned (encTok (some ⟨2, p, []⟩)) ∧ Blk w' r 103 #[.string line, .int .i64 a] ∧ Mod [r] w w'
  | some x => e = .returned (encTok (some ⟨1, p, x.1⟩)) ∧ Blk w' r 103 #[.string line, .int .i64 (p + 1 + x.2 : Nat)] ∧ p + 1 + x.2 ≤ line.size ∧ Mod [r] w w'
def QuoteSaid : Prop := ∀ (w : World) (r : Nat) (line : ByteArray) (a p : Nat) (q : Int), q = (p : Int) → Blk w r 103 #[.string line, .int .i64 a] → p < line.size → line.size ≤ 1099511627776 →
  Calls Tryz.prog 162 #[.pointer (some ⟨r, 0, none⟩), .int .i64 q] w (QuotePost w r line a p)


/-- What holds while the letters of a word are passed over. -/
def Wording (w : World) (r : Nat) (line : ByteArray) (a p I j : Nat) (wr : World) : Prop :=
  wr.heap[I]? = some (.stringIter (line.extract p line.size) j) ∧ Blk wr w.heap.size 145 #[.int .i64 0, .int .i64 0, .string ⟨#[]⟩] ∧ Blk wr r 103 #[.string line, .int .i64 a] ∧ Mod [] w wr
theorem Passing.step {w wr : World} {r : Nat} {line : ByteArray} {a i : Nat} (h : Passing w r line a i wr) (hr : r < w.heap.size) (i' : Nat) : Passing w r line a i' (wr.iterAt (w.heap.size + 1) (line.extract a line.size) i') := by
  obtain ⟨h1, h2, h3, h4⟩ := h
  exact ⟨Lib.iterAt_heap wr _ _ i i' h1, (Lib.iterAt_other wr _ _ _ _ (by omega)).trans h2, (Lib.iterAt_other wr _ _ _ _ (by omega)).trans h3, h4.iterAt (by omega) _ _⟩
theorem Wording.step {w wr : World} {r : Nat} {line : ByteArray} {a p I j : Nat} (h : Wording w r line a p I j wr) (hr : r < w.heap.size) (hI : w.heap.size < I) (j' : Nat) : Wording w r line a p I j' (wr.iterAt I (line.extract p line.size) j') := by
  obtain ⟨h1, h2, h3, h4⟩ := h
  exact ⟨Lib.iterAt_heap wr _ _ j j' h1, (Lib.iterAt_other wr _ _ _ _ (by omega)).trans h2, (Lib.iterAt_other wr _ _ _ _ (by omega)).trans h3, h4.iterAt (by omega) _ _⟩
theorem Passing.pos {w wr : World} {r : Nat} {line : ByteArray} {a i : Nat} (h : Passing w r line a i wr) : wr.iterPos (w.heap.size + 1) = i := by
  simp [World.iterPos, h.1]
theorem Wording.pos {w wr : World} {r : Nat} {line : ByteArray} {a p I j : Nat} (h : Wording w r line a p I j wr) : wr.iterPos I = j := by
  simp [World.iterPos, h.1]

theorem post_nil {w w' : World} {r : Nat} {line : ByteArray} {a : Nat} {e : Ending} (hl : left line.data.toList a = [])
    (he : e = .returned (.tuple #[encTok none, .bool false])) (hb : Blk w' r 103 #[.string line, .int .i64 (line.size : Nat)]) (hm : Mod [r] w w') : NextPost w r line.size (left line.data.toList a) e w' := by
  rw [hl]
  exact ⟨he, ⟨line, line.size, hb, Nat.le_refl _, rfl, left_end _ _ (by rw [← Lib.size_eq]; exact Nat.le_refl _)⟩, hm⟩
theorem post_tok {w w' : World} {r : Nat} {line : ByteArray} {a a' : Nat} {t : Tok} {ts : List Tok} {e : Ending} (hl : left line.data.toList a = t :: ts) (hk : t.kind ≠ 2) (hl' : left line.data.toList a' = ts) (ha : a' ≤ line.size)
    (he : e = .returned (.tuple #[encTok (some t), .bool true])) (hb : Blk w' r 103 #[.string line, .int .i64 a']) (hm : Mod [r] w w') : NextPost w r line.size (left line.data.toList a) e w' := by
  rw [hl]
  exact ⟨he, ⟨line, a', hb, ha, rfl, by rw [if_neg hk]; exact hl'⟩, hm⟩
theorem post_bad {w w' : World} {r : Nat} {line : ByteArray} {a : Nat} {t : Tok} {ts : List Tok} {e : Ending} (hl : left line.data.toList a = t :: ts) (hk : t.kind = 2) (ha : a ≤ line.size)
    (he : e = .returned (.tuple #[encTok (some t), .bool true])) (hb : Blk w' r 103 #[.string line, .int .i64 a]) (hm : Mod [r] w w') : NextPost w r line.size (left line.data.toList a) e w' := by
  rw [hl]
  exact ⟨he, ⟨line, a, hb, ha, rfl, by rw [if_pos hk]; exact hl⟩, hm⟩

set_option maxRecDepth 100000 in
set_option maxHeartbeats 4000000 in
theorem next_walk (HQ : QuoteSaid) (w : World) (r : Nat) (line : ByteArray) (a : Nat) (hb : Blk w r 103 #[.string line, .int .i64 a]) (ha : a ≤ line.size) (hn : line.size ≤ 1099511627776) :
    Calls Tryz.prog 103 #[.pointer (some ⟨r, 0, none⟩)] w (NextPost w r line.size (left line.data.toList a)) := by
  have hc0 := hb.cell 0
  have hc1 := hb.cell 1
  have hlt := hb.lt
  simp at hc0 hc1
  obtain ⟨K, hK⟩ : ∃ K, blanks (line.data.toList.drop a) = K := ⟨_, rfl⟩
  have hlen : line.data.toList.length = line.size := (Lib.size_eq line).symm
  have hKle : a + K ≤ line.size := by
    have := blanks_le (line.data.toList.drop a)
    rw [hK, List.length_drop, hlen] at this; omega
  have HL := Lib.hid (show left line.data.toList a = left line.data.toList (a + K) from by rw [← hK]; exact left_blanks _ _)
  have HBl := Lib.hid (show (∀ i c, i < K → line.data.toList[a + i]? = some c → c = 32 ∨ c = 9) ∧ (∀ c, line.data.toList[a + K]? = some c → isBlank c = false) from
    ⟨fun i c hi hc => blank_in _ i c (by rw [hK]; exact hi) (by rw [List.getElem?_drop]; exact hc), fun c hc => blank_end _ c (by rw [hK, List.getElem?_drop]; exact hc)⟩)
  have Hlen := Lib.hid hlen
  clear hK hlen
  go_enter Tryz.func103, Tryz.ntmps103
  go_wp2
  go_region
  go_wp2
  clear hc0 hc1
  go_loopw [] (fun wr => ∃ i, i ≤ K ∧ Passing w r line a i wr) (fun wr => line.size - a - wr.iterPos (w.heap.size + 1))
  case atStart => exact ⟨0, by omega, Passing.start hb⟩
  case round =>
    obtain ⟨i, hi, hp⟩ := hrel
    have hsz2 := ext_size line a
    have HB := Lib.hid hb
    clear hb
    by_cases hiK : i < K
    · -- a blank
      have hil : i < (line.extract a line.size).size := by rw [hsz2]; omega
      obtain ⟨c, hc⟩ : ∃ c, line.data.toList[a + i]? = some c := ⟨_, List.getElem?_eq_getElem (by rw [Hlen.out]; omega)⟩
      have hce := ext_at line a i hil hc
      have hcs := HBl.out.1 i c hiK hc
      have hst := hp.step hlt (i + 1)
      have HP := Lib.hid hp
      have hp1 := hp.1
      obtain ⟨W1, hW1⟩ : ∃ W1, wr.iterAt (w.heap.size + 1) (line.extract a line.size) (i + 1) = W1 := ⟨_, rfl⟩
      rw [hW1] at hst
      have hnx : ∀ ty, (Instr.next (.pointer (some ⟨w.heap.size + 1, 0, none⟩)) true ty).run Tryz.prog wr = .ok (.tuple #[.bool true, .int .i64 i, .int .i32 c.toNat]) W1 := fun ty => by
        rw [Lib.run_next_ascii_at wr (w.heap.size + 1) _ i ty hp1 hil (by rw [hce]; rcases hcs with rfl | rfl <;> decide), hce, hW1]
      have HS := Lib.hid hst
      have hq := HP.out.pos
      have hq2 := HS.out.pos
      have HQ2 := Lib.hid hq
      have HQ3 := Lib.hid hq2
      clear hq hq2 hp hp1 hst hW1 hce hsz2 hc
      rcases hcs with rfl | rfl
      all_goals
        simp at hnx
        go_wp2
        go_roundw
        case rel => exact ⟨i + 1, by omega, HS.out⟩
        case measure => rw [HQ2.out, HQ3.out]; omega
    · obtain rfl : i = K := by omega
      clear hiK hi
      have hsz := hp.lt
      by_cases hend : a + i = line.size
      · -- the line is through
        have hnx : ∀ ty, (Instr.next (.pointer (some ⟨w.heap.size + 1, 0, none⟩)) true ty).run Tryz.prog wr = _ := fun ty => Lib.run_next_end_at wr (w.heap.size + 1) _ i ty hp.1 (by rw [hsz2]; omega)
        have hl0 : left line.data.toList a = [] := by rw [HL.out, left_end _ _ (by rw [Hlen.out]; omega)]
        obtain ⟨_, hres, hrd, hm⟩ := hp
        have H := Lib.hid (And.intro hl0 (And.intro hres (And.intro hrd hm)))
        have hc0 := hrd.cell 0
        have hc1 := hrd.cell 1
        have hf := hrd.frozen 1
        have hr0 := hres.cell 0
        have hr1 := hres.cell 1
        have hr2 := hres.cell 2
        have hg0 := hres.frozen 0
        have hg1 := hres.frozen 1
        have hg2 := hres.frozen 2
        simp at hc0 hc1 hr0 hr1 hr2
        clear hsz2 hl0 hres hrd hm hend
        go_wp2
        obtain ⟨hl0, hres, hrd, hm⟩ := H.out
        refine ret_cell_tmp Tryz.results103 rfl ((((hres.far (p := ⟨r, 1, none⟩) (by simp; omega) _).set_ 0 _).set_ 1 _).set_ 2 _) Tryz.underlying145 rfl (by kernel_rfl) rfl ?_
        refine post_nil hl0 rfl ((((hrd.set_ 1 _).far (p := ⟨w.heap.size, 0, none⟩) (by simp; omega) _).far (p := ⟨w.heap.size, 1, none⟩) (by simp; omega) _).far (p := ⟨w.heap.size, 2, none⟩) (by simp; omega) _) ?_
        exact ((((hm.mono (by simp)).setCell (.inl (by simp)) _).setCell (.inr (by simp)) _).setCell (.inr (by simp)) _).setCell (.inr (by simp)) _
      · -- something stands here
        have hil : i < (line.extract a line.size).size := by rw [hsz2]; omega
        obtain ⟨c, hc⟩ : ∃ c, line.data.toList[a + i]? = some c := ⟨_, List.getElem?_eq_getElem (by rw [Hlen.out]; omega)⟩
        have hce := ext_at line a i hil hc
        have hcb := HBl.out.2 c hc
        have hst := hp.step hlt (i + (Utf8.decode (line.extract a line.size) i).2)
        have hp1 := hp.1
        obtain ⟨W1, hW1⟩ : ∃ W1, wr.iterAt (w.heap.size + 1) (line.extract a line.size) (i + (Utf8.decode (line.extract a line.size) i).2) = W1 := ⟨_, rfl⟩
        have hW1s : wr.heap.size = W1.heap.size := by rw [← hW1, Lib.iterAt_size]
        rw [hW1] at hst
        obtain ⟨v, hv⟩ : ∃ v, (Utf8.decode (line.extract a line.size) i).1 = v := ⟨_, rfl⟩
        have hnx : ∀ ty, (Instr.next (.pointer (some ⟨w.heap.size + 1, 0, none⟩)) true ty).run Tryz.prog wr = .ok (.tuple #[.bool true, .int .i64 i, .int .i32 v]) W1 := fun ty => by
          rw [Lib.run_next_any_at wr (w.heap.size + 1) _ i ty hp1 hil, hW1, hv]
        have hvc : (c.toNat < 128 → v = c.toNat) ∧ (128 ≤ c.toNat → 128 ≤ v) := by
          constructor
          · intro hlo
            rw [← hv, decode_ascii _ i hil (by rw [hce]; exact hlo), hce]
          · intro hhi
            rw [← hv]; exact (decode_high _ i hil (by rw [hce]; exact hhi)).1
        have hp2 : a + i < line.size := by omega
        obtain ⟨_, hres, hrd, hm⟩ := hst
        have hszW : w.heap.size + 1 < W1.heap.size := by omega
        have hc0 := hrd.cell 0
        have hc1 := hrd.cell 1
        have hf := hrd.frozen 1
        have hr0 := hres.cell 0
        have hr1 := hres.cell 1
        have hr2 := hres.cell 2
        have hg0 := hres.frozen 0
        have hg1 := hres.frozen 1
        have hg2 := hres.frozen 2
        simp at hc0 hc1 hr0 hr1 hr2
        have H := Lib.hid (And.intro hc (And.intro hres (And.intro hrd hm)))
        clear hsz2 hce hp hp1 hW1 hW1s hv hend hil hc hres hrd hm
        have h32 : ((v : Int) == 32) = false := by
          rw [beq_eq_false_iff_ne]; intro e
          rcases Nat.lt_or_ge c.toNat 128 with h | h
          · have := hvc.1 h
            have e2 : c.toNat = (32 : UInt8).toNat := by simp; omega
            rw [UInt8.toNat_inj.1 e2] at hcb; revert hcb; decide
          · have := hvc.2 h; omega
        have h9 : ((v : Int) == 9) = false := by
          rw [beq_eq_false_iff_ne]; intro e
          rcases Nat.lt_or_ge c.toNat 128 with h | h
          · have := hvc.1 h
            have e2 : c.toNat = (9 : UInt8).toNat := by simp; omega
            rw [UInt8.toNat_inj.1 e2] at hcb; revert hcb; decide
          · have := hvc.2 h; omega
        by_cases hh : c = 35
        · -- a comment
          subst hh
          obtain rfl : v = 35 := hvc.1 (by decide)
          clear hvc hcb h32 h9
          go_wp2
          obtain ⟨hc, hres, hrd, hm⟩ := H.out
          have hl0 : left line.data.toList a = [] := by rw [HL.out, left_hash _ _ hc]
          refine ret_cell_tmp Tryz.results103 rfl ((((hres.far (p := ⟨r, 1, none⟩) (by simp; omega) _).set_ 0 _).set_ 1 _).set_ 2 _) Tryz.underlying145 rfl (by kernel_rfl) rfl ?_
          refine post_nil hl0 rfl ((((hrd.set_ 1 _).far (p := ⟨w.heap.size, 0, none⟩) (by simp; omega) _).far (p := ⟨w.heap.size, 1, none⟩) (by simp; omega) _).far (p := ⟨w.heap.size, 2, none⟩) (by simp; omega) _) ?_
          exact ((((hm.mono (by simp)).setCell (.inl (by simp)) _).setCell (.inr (by simp)) _).setCell (.inr (by simp)) _).setCell (.inr (by simp)) _
        · by_cases hq : c = 34
          · -- a quoted text
            subst hq
            obtain rfl : v = 34 := hvc.1 (by decide)
            clear hvc hcb h32 h9 hh
            obtain ⟨hc, hres, hrd, hm⟩ := H.out
            have hlq := left_quote line.data.toList (a + i) hc
            rw [← HL.out] at hlq
            have HC := HQ W1 r line a (a + i) ((a : Int) + (i : Int)) (by omega) hrd hp2 hn
            unfold QuotePost at HC
            rcases hqq : quoteL (line.data.toList.drop (a + i + 1)) with _ | x
            · rw [hqq] at HC hlq
              have HX := Lib.hid (And.intro HC hlq)
              clear HC hlq hqq hc hres hrd hm
              go_wp2_with fail
              clear hc0 hc1 hf hr0 hr1 hr2 hg0 hg1 hg2
              refine (HX.out.1).mono ?_
              rintro e w2 ⟨rfl, hb2, hm2⟩
              have hres2 := hm2.blk H.out.2.1 (by simp; omega)
              have hr0 := hres2.cell 0
              have hr1 := hres2.cell 1
              have hr2 := hres2.cell 2
              have hg0 := hres2.frozen 0
              have hg1 := hres2.frozen 1
              have hg2 := hres2.frozen 2
              simp at hr0 hr1 hr2
              have HY := Lib.hid (And.intro hb2 (And.intro hm2 hres2))
              clear hb2 hm2 hres2
              simp only [encTok]
              go_wp2
              obtain ⟨hb2, hm2, hres2⟩ := HY.out
              obtain ⟨hc, hres, hrd, hm⟩ := H.out
              refine ret_cell_tmp Tryz.results103 rfl (((hres2.set_ 0 _).set_ 1 _).set_ 2 _) Tryz.underlying145 rfl (by kernel_rfl) rfl ?_
              refine post_bad HX.out.2 rfl ha rfl (((hb2.far (p := ⟨w.heap.size, 0, none⟩) (by simp; omega) _).far (p := ⟨w.heap.size, 1, none⟩) (by simp; omega) _).far (p := ⟨w.heap.size, 2, none⟩) (by simp; omega) _) ?_
              exact ((((hm.mono (by simp)).then hm2 (by simp)).setCell (.inr (by simp)) _).setCell (.inr (by simp)) _).setCell (.inr (by simp)) _
            · rw [hqq] at HC hlq
              have HX := Lib.hid (And.intro HC hlq)
              clear HC hlq hqq hc hres hrd hm
              go_wp2_with fail
              clear hc0 hc1 hf hr0 hr1 hr2 hg0 hg1 hg2
              refine (HX.out.1).mono ?_
              rintro e w2 ⟨rfl, hb2, hx2, hm2⟩
              have hres2 := hm2.blk H.out.2.1 (by simp; omega)
              have hr0 := hres2.cell 0
              have hr1 := hres2.cell 1
              have hr2 := hres2.cell 2
              have hg0 := hres2.frozen 0
              have hg1 := hres2.frozen 1
              have hg2 := hres2.frozen 2
              simp at hr0 hr1 hr2
              have HY := Lib.hid (And.intro hb2 (And.intro hm2 (And.intro hres2 hx2)))
              clear hb2 hm2 hres2 hx2
              simp only [encTok]
              go_wp2
              obtain ⟨hb2, hm2, hres2, hx2⟩ := HY.out
              obtain ⟨hc, hres, hrd, hm⟩ := H.out
              refine ret_cell_tmp Tryz.results103 rfl (((hres2.set_ 0 _).set_ 1 _).set_ 2 _) Tryz.underlying145 rfl (by kernel_rfl) rfl ?_
              refine post_tok HX.out.2 (by simp) rfl hx2 rfl (((hb2.far (p := ⟨w.heap.size, 0, none⟩) (by simp; omega) _).far (p := ⟨w.heap.size, 1, none⟩) (by simp; omega) _).far (p := ⟨w.heap.size, 2, none⟩) (by simp; omega) _) ?_
              exact ((((hm.mono (by simp)).then hm2 (by simp)).setCell (.inr (by simp)) _).setCell (.inr (by simp)) _).setCell (.inr (by simp)) _
          · -- a word
            have h35 : ((v : Int) == 35) = false := by
              rw [beq_eq_false_iff_ne]; intro e
              rcases Nat.lt_or_ge c.toNat 128 with h | h
              · have := hvc.1 h
                have e2 : c.toNat = (35 : UInt8).toNat := by simp; omega
                exact hh (UInt8.toNat_inj.1 e2)
              · have := hvc.2 h; omega
            have h34 : ((v : Int) == 34) = false := by
              rw [beq_eq_false_iff_ne]; intro e
              rcases Nat.lt_or_ge c.toNat 128 with h | h
              · have := hvc.1 h
                have e2 : c.toNat = (34 : UInt8).toNat := by simp; omega
                exact hq (UInt8.toNat_inj.1 e2)
              · have := hvc.2 h; omega
            have hns : isStop c = false := by
              cases hs : isStop c with
              | false => rfl
              | true =>
                rcases stop_cases.1 hs with rfl | rfl | rfl | rfl
                · revert hcb; decide
                · revert hcb; decide
                · exact absurd rfl hh
                · exact absurd rfl hq
            have hwd := left_word line.data.toList (a + i) c H.out.1 hns
            obtain ⟨M, hM⟩ : ∃ M, wordLen (line.data.toList.drop (a + i)) = M := ⟨_, rfl⟩
            have hMle : a + i + M ≤ line.size := by
              have := wordLen_le (line.data.toList.drop (a + i))
              rw [hM, List.length_drop, Hlen.out] at this; omega
            rw [hM, ← HL.out] at hwd
            have HWD := Lib.hid hwd
            have HM := Lib.hid hM
            have hM1 := hwd.2
            clear hwd hM hns hvc hcb hh hq
            go_wp2
            clear hc0 hc1 hf hr0 hr1 hr2 hg0 hg1 hg2 h32 h9 h35 h34 hnx
            go_loopw [7] (fun s7 wx => s7 = .int .i64 (line.size : Nat) ∧ ∃ j, j ≤ M ∧ Wording w r line a (a + i) W1.heap.size j wx) (fun _ wx => line.size - wx.iterPos W1.heap.size)
            case atStart =>
              obtain ⟨_, hres, hrd, hm⟩ := H.out
              exact ⟨rfl, 0, by omega, World.iter_heap W1 _ 0, hres.alloc _, hrd.alloc _, hm.alloc _⟩
            case round =>
              obtain ⟨rfl, j, hj, hp⟩ := hrel
              have hsz3 := ext_size line (a + i)
              have hI : w.heap.size < W1.heap.size := by omega
              by_cases hjM : j < M
              · -- a letter of the word
                have hjl : j < (line.extract (a + i) line.size).size := by rw [hsz3]; omega
                obtain ⟨d, hd⟩ : ∃ d, line.data.toList[a + i + j]? = some d := ⟨_, List.getElem?_eq_getElem (by rw [Hlen.out]; omega)⟩
                have hde := ext_at line (a + i) j hjl hd
                have hdd : (line.data.toList.drop (a + i))[j]? = some d := by rw [List.getElem?_drop]; exact hd
                have hds := word_in _ j d (by rw [HM.out]; exact hjM) hdd
                obtain ⟨v2, hv2⟩ : ∃ v2, (Utf8.decode (line.extract (a + i) line.size) j).1 = v2 := ⟨_, rfl⟩
                obtain ⟨n2, hn2⟩ : ∃ n2, (Utf8.decode (line.extract (a + i) line.size) j).2 = n2 := ⟨_, rfl⟩
                have hvc : (d.toNat < 128 → v2 = d.toNat ∧ n2 = 1) ∧ (128 ≤ d.toNat → 128 ≤ v2) := by
                  constructor
                  · intro hlo
                    rw [← hv2, ← hn2, decode_ascii _ j hjl (by rw [hde]; exact hlo), hde]; exact ⟨rfl, rfl⟩
                  · intro hhi
                    rw [← hv2]; exact (decode_high _ j hjl (by rw [hde]; exact hhi)).1
                have hn1 : 1 ≤ n2 := by
                  rcases Nat.lt_or_ge d.toNat 128 with h | h
                  · rw [(hvc.1 h).2]; exact Nat.le_refl _
                  · rw [← hn2]; exact (decode_high _ j hjl (by rw [hde]; exact h)).2
                have hjn : j + n2 ≤ M := by
                  rw [← HM.out]
                  refine wordLen_ge _ _ fun k hk => ?_
                  by_cases hkj : k < j
                  · obtain ⟨x, hx⟩ : ∃ x, (line.data.toList.drop (a + i))[k]? = some x := ⟨_, List.getElem?_eq_getElem (by rw [List.length_drop, Hlen.out]; omega)⟩
                    exact ⟨x, hx, word_in _ k x (by rw [HM.out]; omega) hx⟩
                  · rcases Nat.lt_or_ge d.toNat 128 with h | h
                    · have := (hvc.1 h).2
                      obtain rfl : k = j := by omega
                      exact ⟨d, hdd, hds⟩
                    · have hin := decode_in (line.extract (a + i) line.size) j hjl (by rw [get_bang _ _ hjl, hde]; exact h) (k - j) (by rw [hn2]; omega)
                      rw [show j + (k - j) = k from by omega] at hin
                      have hb2 := byte_at _ k hin.1
                      rw [ext_list] at hb2
                      exact ⟨_, hb2, high_stop (by rw [← get_bang _ k hin.1]; exact hin.2)⟩
                have hno : ∀ x : UInt8, isStop x = true → x.toNat < 128 → ((v2 : Int) == (x.toNat : Int)) = false := fun x hx hx2 => by
                  rw [beq_eq_false_iff_ne]; intro e
                  rcases Nat.lt_or_ge d.toNat 128 with h | h
                  · have := (hvc.1 h).1
                    have e2 : d = x := UInt8.toNat_inj.1 (by omega)
                    rw [e2, hx] at hds; cases hds
                  · have := hvc.2 h; omega
                have h32 : ((v2 : Int) == 32) = false := hno 32 rfl (by decide)
                have h9 : ((v2 : Int) == 9) = false := hno 9 rfl (by decide)
                have h35 : ((v2 : Int) == 35) = false := hno 35 rfl (by decide)
                have h34 : ((v2 : Int) == 34) = false := hno 34 rfl (by decide)
                have hst := hp.step hlt hI (j + n2)
                have hp1 := hp.1
                obtain ⟨W2, hW2⟩ : ∃ W2, wr.iterAt W1.heap.size (line.extract (a + i) line.size) (j + n2) = W2 := ⟨_, rfl⟩
                rw [hW2] at hst
                have hnx : ∀ ty, (Instr.next (.pointer (some ⟨W1.heap.size, 0, none⟩)) true ty).run Tryz.prog wr = .ok (.tuple #[.bool true, .int .i64 j, .int .i32 v2]) W2 := fun ty => by
                  rw [Lib.run_next_any_at wr W1.heap.size _ j ty hp1 hjl, hn2, hW2, hv2]
                have HS := Lib.hid (And.intro hst (And.intro hp.pos hst.pos))
                clear hno hvc hds hdd hde hd hv2 hn2 hp hp1 hst hW2 hsz3 hjl
                go_wp2
                go_roundw
                case rel => exact ⟨rfl, j + n2, hjn, HS.out.1⟩
                case measure => rw [HS.out.2.1, HS.out.2.2]; omega
              · obtain rfl : j = M := by omega
                clear hj hjM
                by_cases hend2 : a + i + j = line.size
                · have hnx : ∀ ty, (Instr.next (.pointer (some ⟨W1.heap.size, 0, none⟩)) true ty).run Tryz.prog wr = _ := fun ty => Lib.run_next_end_at wr W1.heap.size _ j ty hp.1 (by rw [hsz3]; omega)
                  obtain ⟨_, hres, hrd, hm⟩ := hp
                  have H2 := Lib.hid (And.intro hres (And.intro hrd hm))
                  have hc0 := hrd.cell 0
                  have hc1 := hrd.cell 1
                  have hf := hrd.frozen 1
                  have hr0 := hres.cell 0
                  have hr1 := hres.cell 1
                  have hr2 := hres.cell 2
                  have hg0 := hres.frozen 0
                  have hg1 := hres.frozen 1
                  have hg2 := hres.frozen 2
                  simp at hc0 hc1 hr0 hr1 hr2
                  clear hres hrd hm

                  have HE := Lib.hid hend2
                  clear hsz3 hend2
                  go_wp2
                  obtain ⟨hres, hrd, hm⟩ := H2.out
                  have hsl : (⟨((line.data.toList.drop (a + i)).take j).toArray⟩ : ByteArray) = line.extract (a + i) line.size := by
                    rw [← HE.out]; exact ext_of_list line (a + i) j
                  refine ret_cell_tmp Tryz.results103 rfl ((((hres.far (p := ⟨r, 1, none⟩) (by simp; omega) _).set_ 0 _).set_ 1 _).set_ 2 _) Tryz.underlying145 rfl (by kernel_rfl) rfl ?_
                  refine post_tok HWD.out.1 (by simp) rfl hMle (by simp [encTok, hsl]) ((by rw [HE.out]; exact ((((hrd.set_ 1 _).far (p := ⟨w.heap.size, 0, none⟩) (by simp; omega) _).far (p := ⟨w.heap.size, 1, none⟩) (by simp; omega) _).far (p := ⟨w.heap.size, 2, none⟩) (by simp; omega) _))) ?_
                  exact ((((hm.mono (by simp)).setCell (.inl (by simp)) _).setCell (.inr (by simp)) _).setCell (.inr (by simp)) _).setCell (.inr (by simp)) _
                · have hjl : j < (line.extract (a + i) line.size).size := by rw [hsz3]; omega
                  obtain ⟨d, hd⟩ : ∃ d, line.data.toList[a + i + j]? = some d := ⟨_, List.getElem?_eq_getElem (by rw [Hlen.out]; omega)⟩
                  have hde := ext_at line (a + i) j hjl hd
                  have hds : isStop d = true := word_end _ d (by rw [HM.out, List.getElem?_drop]; exact hd)
                  have hst := hp.step hlt hI (j + 1)
                  have hp1 := hp.1
                  obtain ⟨W2, hW2⟩ : ∃ W2, wr.iterAt W1.heap.size (line.extract (a + i) line.size) (j + 1) = W2 := ⟨_, rfl⟩
                  rw [hW2] at hst
                  have hnx : ∀ ty, (Instr.next (.pointer (some ⟨W1.heap.size, 0, none⟩)) true ty).run Tryz.prog wr = .ok (.tuple #[.bool true, .int .i64 j, .int .i32 d.toNat]) W2 := fun ty => by
                    rw [Lib.run_next_ascii_at wr W1.heap.size _ j ty hp1 hjl (by rw [hde]; rcases stop_cases.1 hds with rfl | rfl | rfl | rfl <;> decide), hde, hW2]
                  have hp := hst
                  clear hst hW2 hp1 hde hd hjl
                  obtain ⟨_, hres, hrd, hm⟩ := hp
                  have H2 := Lib.hid (And.intro hres (And.intro hrd hm))
                  have hc0 := hrd.cell 0
                  have hc1 := hrd.cell 1
                  have hf := hrd.frozen 1
                  have hr0 := hres.cell 0
                  have hr1 := hres.cell 1
                  have hr2 := hres.cell 2
                  have hg0 := hres.frozen 0
                  have hg1 := hres.frozen 1
                  have hg2 := hres.frozen 2
                  simp at hc0 hc1 hr0 hr1 hr2
                  clear hres hrd hm

                  have hsl : (⟨((line.data.toList.drop (a + i)).take j).toArray⟩ : ByteArray) = line.extract (a + i) (a + i + j) := ext_of_list line (a + i) j
                  have HE := Lib.hid hsl
                  clear hsz3 hend2 hsl
                  rcases stop_cases.1 hds with rfl | rfl | rfl | rfl
                  all_goals
                    clear hds
                    simp at hnx
                    go_wp2
                    obtain ⟨hres, hrd, hm⟩ := H2.out
                    refine ret_cell_tmp Tryz.results103 rfl ((((hres.far (p := ⟨r, 1, none⟩) (by simp; omega) _).set_ 0 _).set_ 1 _).set_ 2 _) Tryz.underlying145 rfl (by kernel_rfl) rfl ?_
                    refine post_tok HWD.out.1 (by simp) rfl hMle (by simp [encTok, HE.out]) ((((hrd.set_ 1 _).far (p := ⟨w.heap.size, 0, none⟩) (by simp; omega) _).far (p := ⟨w.heap.size, 1, none⟩) (by simp; omega) _).far (p := ⟨w.heap.size, 2, none⟩) (by simp; omega) _) ?_
                    exact ((((hm.mono (by simp)).setCell (.inl (by simp)) _).setCell (.inr (by simp)) _).setCell (.inr (by simp)) _).setCell (.inr (by simp)) _
end Go.Proofs.YtjieelmbgfnllaaGreatDoor
