/- Plain law: the reference's printing of steps, and that it answers as the program's. Conditions: none. The reference's Quote and digits tell what the program's quoting and strconv.Itoa tell; within. Conditions: a text of at most 2^30 bytes; numbers of 64 bits. empty of the reference: whether a step has no operation. Conditions: none. -/
import Derived.Test.YtjieelmbgfnllaaGreatDoorScPure
import Derived.Test.YtjieelmbgfnllaaGreatDoorScSpaced
import Derived.Test.YtjieelmbgfnllaaGreatDoorScShown
import Derived.Test.YtjieelmbgfnllaaGreatDoorScSeen
namespace Scr

def in40 (n : Int) : Bool := decide (-1099511627776 ≤ n) && decide (n ≤ 1099511627776)
theorem in40_iff {n : Int} : in40 n = true ↔ Num40 n := by unfold in40 Num40; simp
/-- Has an operation a line? -/
def okO (o : OpS) : Bool :=
  in40 o.n && in40 o.snap &&
    if o.kind = 1 then o.writes.all (fun x => !x.del || decide (x.val = [])) && decide (o.key = []) && decide (o.til = []) && decide (o.n = 0) && decide (o.snap = 0)
    else decide (o.writes = []) && !o.sync &&
      if o.kind = 2 ∨ o.kind = 5 then decide (o.key = []) && decide (o.til = []) && decide (o.n = 0) && decide (o.snap = 0)
      else if o.kind = 3 then decide (o.til = []) && decide (o.n = 0)
      else if o.kind = 4 then true
      else if o.kind = 6 then decide (o.key = []) && decide (o.til = []) && decide (o.n = 0)
      else false
/-- Has a step a line? -/
def okS (s : StepS) : Bool :=
  in40 s.a && in40 s.b && in40 s.c && (decide (s.kind = 6) || decide (s.b = 0) && decide (s.c = 0)) && (decide (s.kind = 4) || decide (s.keep = [])) && (decide (s.kind = 1) || decide (s.op = OpS.zero)) &&
    if s.kind = 1 then okO s.op
    else if s.kind = 2 then true
    else if s.kind = 3 then decide (s.a = 0)
    else if s.kind = 4 then s.keep.all in40
    else if s.kind = 5 then true
    else decide (s.kind = 6)
theorem canonO {o : OpS} (h : okO o = true) : CanonOp o := by
  obtain ⟨kind, writes, sync, key, til, n, snap⟩ := o
  simp only [okO, Bool.and_eq_true, in40_iff] at h
  obtain ⟨⟨hn, hs⟩, h⟩ := h
  by_cases h1 : kind = 1
  · subst h1
    simp at h
    obtain ⟨⟨⟨⟨hw, rfl⟩, rfl⟩, rfl⟩, rfl⟩ := h
    exact CanonOp.write writes sync (fun x hx hd => by
      rcases hw x hx with h | h
      · rw [hd] at h; cases h
      · exact h)
  · rw [if_neg h1] at h
    simp only [Bool.and_eq_true, decide_eq_true_eq, Bool.not_eq_true'] at h
    obtain ⟨⟨rfl, rfl⟩, h⟩ := h
    by_cases h2 : kind = 2 ∨ kind = 5
    · rw [if_pos h2] at h
      simp at h
      obtain ⟨⟨⟨rfl, rfl⟩, rfl⟩, rfl⟩ := h
      rcases h2 with rfl | rfl
      · exact CanonOp.sync
      · exact CanonOp.snap
    · rw [if_neg h2] at h
      by_cases h3 : kind = 3
      · subst h3
        simp at h
        obtain ⟨rfl, rfl⟩ := h
        exact CanonOp.get key snap hs
      · rw [if_neg h3] at h
        by_cases h4 : kind = 4
        · subst h4
          exact CanonOp.scan key til n snap hn hs
        · rw [if_neg h4] at h
          by_cases h6 : kind = 6
          · subst h6
            simp at h
            obtain ⟨⟨rfl, rfl⟩, rfl⟩ := h
            exact CanonOp.release snap hs
          · rw [if_neg h6] at h
            cases h
theorem canonS {s : StepS} (h : okS s = true) : Canon s := by
  obtain ⟨kind, a, b, c, op, keep⟩ := s
  simp only [okS, Bool.and_eq_true, in40_iff, Bool.or_eq_true, decide_eq_true_eq] at h
  obtain ⟨⟨⟨⟨⟨⟨ha, hb⟩, hc⟩, hbc⟩, hk⟩, ho⟩, h⟩ := h
  by_cases h1 : kind = 1
  · subst h1
    simp at hbc hk h
    obtain ⟨rfl, rfl⟩ := hbc
    subst hk
    exact Canon.op a op ha (canonO h)
  · have ho2 : op = OpS.zero := ho.resolve_left h1
    subst ho2
    rw [if_neg h1] at h
    by_cases h4 : kind = 4
    · subst h4
      simp at hbc h
      obtain ⟨rfl, rfl⟩ := hbc
      exact Canon.fall a keep ha (fun x hx => in40_iff.1 (h x hx))
    · have hk2 : keep = [] := hk.resolve_left h4
      subst hk2
      by_cases h6 : kind = 6
      · subst h6
        exact Canon.fail a b c ha hb hc
      · obtain ⟨rfl, rfl⟩ := hbc.resolve_left h6
        by_cases h2 : kind = 2
        · subst h2; exact Canon.mach a ha
        · rw [if_neg h2] at h
          by_cases h3 : kind = 3
          · subst h3
            simp at h
            subst h
            exact Canon.tick
          · rw [if_neg h3, if_neg h4] at h
            by_cases h5 : kind = 5
            · subst h5; exact Canon.arm a ha
            · rw [if_neg h5] at h
              exact absurd (of_decide_eq_true h) h6
theorem z40 : in40 0 = true := by decide
theorem okS_canon {s : StepS} (h : Canon s) : okS s = true := by
  have d : ∀ {x}, Num40 x → in40 x = true := fun h => in40_iff.2 h
  cases h with
  | tick => rfl
  | mach a ha => simp [okS, StepS.zero, d ha, z40]
  | arm a ha => simp [okS, StepS.zero, d ha, z40]
  | fall a l ha hl => simp [okS, StepS.zero, d ha, z40]; exact fun x hx => d (hl x hx)
  | fail a b c ha hb hc => simp [okS, StepS.zero, d ha, d hb, d hc]
  | op a o ha ho =>
    have : okO o = true := by
      cases ho with
      | write l sy hl =>
        simp [okO, OpS.zero, z40]
        intro x hx
        rcases hd : x.del with _ | _
        · exact .inl rfl
        · exact .inr (hl x hx hd)
      | sync => rfl
      | snap => rfl
      | release n hn => simp [okO, OpS.zero, d hn, z40]
      | get k n hn => simp [okO, OpS.zero, d hn, z40]
      | scan k t m n hm hn => simp [okO, OpS.zero, d hm, d hn]
    simp [okS, StepS.zero, d ha, z40, this]
/-- The reference's text of steps, line by line; none: there is none. -/
def refB : Bs → List StepS → Option Bs
  | acc, [] => some acc
  | acc, s :: t => if okS s = true ∧ acc.length + (shownL s).length + 1 ≤ 65536 then refB (acc ++ shownL s ++ [10]) t else none
def refP (l : List StepS) : Option Bs := if 20000 < l.length then none else refB [] l
theorem refB_some : ∀ (l : List StepS) (acc b : Bs), refB acc l = some b → (∀ s ∈ l, Canon s) ∧ bodyL acc l = some b
  | [], acc, b, h => by rw [refB] at h; exact ⟨fun s hs => by (cases hs), by rw [bodyL]; exact h⟩
  | s :: t, acc, b, h => by
    rw [refB] at h
    by_cases hc : okS s = true ∧ acc.length + (shownL s).length + 1 ≤ 65536
    · rw [if_pos hc] at h
      obtain ⟨h1, h2⟩ := refB_some t _ b h
      have hs := canonS hc.1
      refine ⟨fun x hx => ?_, ?_⟩
      · rcases List.mem_cons.1 hx with rfl | hx
        · exact hs
        · exact h1 x hx
      · rw [bodyL, if_neg (not_or.2 ⟨shown_ne hs, by omega⟩)]
        exact h2
    · rw [if_neg hc] at h; cases h
theorem refB_of : ∀ (l : List StepS) (acc b : Bs), (∀ s ∈ l, Canon s) → bodyL acc l = some b → refB acc l = some b
  | [], acc, b, _, h => by rw [bodyL] at h; rw [refB]; exact h
  | s :: t, acc, b, hc, h => by
    rw [bodyL] at h
    by_cases hn : shownL s = [] ∨ 65536 ≤ acc.length + (shownL s).length
    · rw [if_pos hn] at h; cases h
    · rw [if_neg hn] at h
      have hn2 := (not_or.1 hn).2
      rw [refB, if_pos ⟨okS_canon (hc s (List.mem_cons_self ..)), by omega⟩]
      exact refB_of t _ b (fun x hx => hc x (List.mem_cons_of_mem _ hx)) h
/-- The reference prints just what the program prints. -/
theorem refP_eq (l : List StepS) : refP l = printP l := by
  by_cases hl : 20000 < l.length
  · unfold refP printP
    rw [if_pos hl, if_pos hl]
  · rcases hr : refB [] l with _ | b
    · have hp : printP l = none := by
        rcases hp : printP l with _ | b
        · rfl
        · obtain ⟨h1, h2, h3⟩ := printP_back hp
          have hc := (parse_ord h1).1
          unfold printP at hp
          rw [if_neg hl] at hp
          rcases hb : bodyL [] l with _ | b2
          · rw [hb] at hp; cases hp
          · have := refB_of l [] b2 hc hb
            rw [hr] at this; cases this
      rw [hp]
      unfold refP
      rw [if_neg hl, hr]
    · obtain ⟨hc, hb⟩ := refB_some l [] b hr
      have hbt := bodyL_eq l [] hc (by simp)
      rw [List.length_nil, Nat.zero_add, List.nil_append, hb] at hbt
      have hle : (bodyT l).length ≤ 65536 := by
        by_cases h : (bodyT l).length ≤ 65536
        · exact h
        · rw [if_neg h] at hbt; cases hbt
      rw [if_pos hle] at hbt
      obtain rfl : b = bodyT l := Option.some.inj hbt
      have hp : parseP (bodyT l) = .ok l := ok_parse hle (by rw [linesP_body l 1 ⟨[], none⟩ hc (by simpa using Nat.le_of_not_lt hl)]; rfl)
      unfold refP printP
      rw [if_neg hl, if_neg hl, hr, hb]
      simp [hp]
end Scr

namespace Go.Proofs.YtjieelmbgfnllaaGreatDoor
open Go.RowKit Scr

theorem within_walk (w : World) (n : Int) : Calls Tryz.prog 212 #[.int .i64 n] w fun e w' => e = .returned (.bool (in40 n)) ∧ w' = w := by
  unfold in40
  by_cases h1 : (-1099511627776 : Int) ≤ n
  · by_cases h2 : n ≤ 1099511627776
    · have e1 : decide ((-1099511627776 : Int) ≤ n) = true := decide_eq_true h1
      have e2 : decide (n ≤ 1099511627776) = true := decide_eq_true h2
      go_enter Tryz.func212, Tryz.ntmps212
      go_wp2
      go_ret
      exact ⟨by first | rfl | (rw [e1, e2]; rfl), rfl⟩
    · have e1 : decide ((-1099511627776 : Int) ≤ n) = true := decide_eq_true h1
      have e2 : decide (n ≤ 1099511627776) = false := decide_eq_false h2
      go_enter Tryz.func212, Tryz.ntmps212
      go_wp2
      go_ret
      exact ⟨by first | rfl | (rw [e1, e2]; rfl), rfl⟩
  · have e1 : decide ((-1099511627776 : Int) ≤ n) = false := decide_eq_false h1
    go_enter Tryz.func212, Tryz.ntmps212
    go_wp2
    go_ret
    exact ⟨by first | rfl | (rw [e1]; rfl), rfl⟩

set_option maxRecDepth 100000 in
set_option maxHeartbeats 4000000 in
theorem rquote_walk (w : World) (s : ByteArray) (hs : s.size ≤ 1073741824) :
    Calls Tryz.prog 233 #[.string s] w fun e w' => e = .returned (.string ⟨(quotingL s.data.toList).toArray⟩) ∧ Mod [] w w' := by
  have Hlen := Lib.hid (Lib.size_eq s)
  go_enter Tryz.func233, Tryz.ntmps233
  go_wp2
  go_loopw [3, 5] (fun v s9 wr => ∃ j : Nat, s9 = .int .i64 j ∧ Quotes w s j v wr) (fun _ s9 _ => s.size - (RowKit.intOf s9).toNat)
  case atStart =>
    refine ⟨0, by go_num, Nat.zero_le _, ?_, (Mod.refl [] w).alloc _⟩
    refine ⟨rfl, .inr ⟨w.heap.size, 1, #[.int .u8 34], rfl, Nat.le_refl _, Blk.new _ _ _, Nat.le_refl _, by decide, rfl, rfl⟩⟩
  case round =>
    obtain ⟨j, rfl, hj, hown, hm⟩ := hrel
    have H := Lib.hid (And.intro hown hm)
    have hsz := hm.size
    have hql := quoted_le s j
    clear hown hm
    by_cases hjl : j < s.size
    · obtain ⟨c, hc⟩ : ∃ c, s.data.toList[j]? = some c := ⟨_, List.getElem?_eq_getElem (by rw [← Hlen.out]; omega)⟩
      have hce : s[j]'hjl = c := by
        have := byte_at s j hjl
        rw [hc] at this; exact (Option.some.inj this).symm
      have HQ := Lib.hid (quoted_step s j c hc)
      clear hc
      have hc256 : c.toNat < 256 := c.toNat_lt
      by_cases h1 : c = 34 ∨ c = 92
      · have HB := Lib.hid (show quoteB c = [92, c] by unfold quoteB; rw [if_pos h1])
        have ht : ((c.toNat : Int) == 34) = true ∨ ((c.toNat : Int) == 34) = false ∧ ((c.toNat : Int) == 92) = true := by
          rcases h1 with rfl | rfl
          · exact .inl rfl
          · exact .inr ⟨rfl, rfl⟩
        clear h1
        rcases ht with ht | ⟨ht, ht2⟩
        all_goals
          go_wp2_with (at_builtin; refine wp_bytes rfl _ _ rfl w.heap.size _ (quoted s j) rfl (H.out.1.alloc _) [92, c] wr 2 2 rfl rfl rfl (by simp; omega) hsz ?_)
          intro A k c2 w2 hown2 hg2
          have HG := Lib.hid (And.intro hown2 hg2)
          clear hown2 hg2
          go_wp2
          go_roundw
          case rel => exact ⟨j + 1, by go_num, quotes_next H.out.1 H.out.2 ((Mod.refl [] wr).alloc _) HQ.out HB.out HG.out.1 HG.out.2 hjl⟩
          case measure => simp [RowKit.intOf]; omega
      · have k34 : ((c.toNat : Int) == 34) = false := by
          rw [beq_eq_false_iff_ne]; intro e; exact h1 (.inl (UInt8.toNat_inj.1 (by simp; omega)))
        have k92 : ((c.toNat : Int) == 92) = false := by
          rw [beq_eq_false_iff_ne]; intro e; exact h1 (.inr (UInt8.toNat_inj.1 (by simp; omega)))
        by_cases h2 : c.toNat < 32 ∨ 126 < c.toNat
        · have HB := Lib.hid (show quoteB c = [92, 120, digs.getD (c.toNat / 16) 0, digs.getD (c.toNat % 16) 0] by unfold quoteB; rw [if_neg h1, if_pos h2])
          obtain ⟨x, hx⟩ : ∃ x : Nat, x = c.toNat / 16 := ⟨_, rfl⟩
          obtain ⟨y, hy⟩ : ∃ y : Nat, y = c.toNat % 16 := ⟨_, rfl⟩
          rw [← hx, ← hy] at HB
          have hx16 : x < 16 := by omega
          have hy16 : y < 16 := by omega
          have hwx : IntKind.u8.wrap ((c.toNat : Int) / 16) = (x : Int) := by rw [hx]; simp [IntKind.wrap, IntKind.bits, IntKind.signed]; omega
          have hwy : ((c.toNat : Int).tmod 16) = (y : Int) := by rw [hy, Int.tmod_eq_emod_of_nonneg (by omega)]; omega
          have hxI : (x : Int) < 16 := by omega
          have hyI : (y : Int) < 16 := by omega
          have hdx := digs_at x hx16
          have hdy := digs_at y hy16
          generalize digs.getD x 0 = dx at hdx HB
          generalize digs.getD y 0 = dy at hdy HB
          clear h1 hx hy
          have ht : (¬ (32 : Int) ≤ c.toNat) ∨ ((32 : Int) ≤ c.toNat ∧ ¬ (c.toNat : Int) ≤ 126) := by omega
          clear h2
          rcases ht with hlo | ⟨hlo, hhi⟩
          all_goals
            go_wp2
            go_region_law (refine step_bytes rfl _ _ rfl w.heap.size _ (quoted s j) rfl ((H.out.1.alloc _).drew) [92, 120, dx, dy] wr 4 4 rfl rfl rfl (by simp; omega) hsz ?_; intro A k c2 w2 hown2 hg2; have HG := Lib.hid (And.intro hown2 hg2); clear hown2 hg2)
            all_goals
              go_wp2
              go_roundw
              case rel => exact ⟨j + 1, by go_num, quotes_next H.out.1 H.out.2 (((Mod.refl [] wr).alloc _).drew) HQ.out HB.out (by rw [← List.length_append]; exact HG.out.1) HG.out.2 hjl⟩
              case measure => simp [RowKit.intOf]; omega
        · have HB := Lib.hid (show quoteB c = [c] by unfold quoteB; rw [if_neg h1, if_neg h2])
          have hlo : (32 : Int) ≤ c.toNat := by have := not_or.1 h2; omega
          have hhi : (c.toNat : Int) ≤ 126 := by have := not_or.1 h2; omega
          clear h1 h2
          go_wp2_with (at_builtin; refine wp_bytes rfl _ _ rfl w.heap.size _ (quoted s j) rfl (H.out.1.alloc _) [c] wr 1 1 rfl rfl rfl (by simp; omega) hsz ?_)
          intro A k c2 w2 hown2 hg2
          have HG := Lib.hid (And.intro hown2 hg2)
          clear hown2 hg2
          go_wp2
          go_roundw
          case rel => exact ⟨j + 1, by go_num, quotes_next H.out.1 H.out.2 ((Mod.refl [] wr).alloc _) HQ.out HB.out HG.out.1 HG.out.2 hjl⟩
          case measure => simp [RowKit.intOf]; omega
    · go_wp2_with (at_builtin; refine wp_bytes rfl _ _ rfl w.heap.size _ (quoted s j) rfl (H.out.1.alloc _) [34] wr 1 1 rfl rfl rfl (by simp; omega) hsz ?_)
      intro A k c2 w2 hown2 hg2
      have hcv := conv_own (l := quoted s j ++ [34]) (by rw [List.length_append]; exact hown2)
      have hend := quoted_end s j (by omega)
      have HG := Lib.hid (And.intro hown2 hg2)
      clear hown2 hg2
      rw [hend] at hcv
      go_wp2
      go_ret
      exact ⟨rfl, (H.out.2.alloc _).grown HG.out.2 (fun k hk => .inr (own_ge H.out.1 hk))⟩

theorem one_byte (W : World) (b1 : UInt8) : (convert 78 9 (.slice (some ⟨W.heap.size, 0, none⟩) 1 1)).run Tryz.prog (W.alloc (.cells #[.int .u8 b1.toNat] 5)) = .ok (.string ⟨#[b1]⟩) (W.alloc (.cells #[.int .u8 b1.toNat] 5)) := by
  refine run_convert_bytes_back _ 78 9 5 ⟨W.heap.size, 0, none⟩ 1 [b1] Tryz.underlying78 Tryz.underlying5 Tryz.underlying9 fun j hj => ?_
  have h := cells_new W [.int .u8 b1.toNat] 5
  match j, hj with
  | 0, _ => exact h 0 _ rfl
theorem dig_byte (v : Nat) (hv : v < 10) : ((UInt8.ofNat (48 + v)).toNat : Int) = 48 + (v : Int) := by
  rw [UInt8.toNat_ofNat']; omega
theorem dec_small {v : Nat} (h : v < 10) : Go.Lib.decDigits v = [UInt8.ofNat (48 + v)] := by rw [Go.Lib.decDigits, dif_pos h]
theorem dec_more {v : Nat} (h : ¬ v < 10) : Go.Lib.decDigits v = Go.Lib.decDigits (v / 10) ++ [UInt8.ofNat (48 + v % 10)] := by rw [Go.Lib.decDigits, dif_neg h]

def Digs (w : World) (u v : Nat) (S : ByteArray) (wr : World) : Prop := v ≤ u ∧ Go.Lib.decDigits v ++ S.data.toList = Go.Lib.decDigits u ∧ Mod [] w wr
set_option maxRecDepth 100000 in
set_option maxHeartbeats 4000000 in
theorem digits_walk (w : World) (n : Int) (hn : I64 n) : Calls Tryz.prog 215 #[.int .i64 n] w fun e w' => e = .returned (.string ⟨(Go.Lib.itoa n).toArray⟩) ∧ Mod [] w w' := by
  have hn0 := hn
  unfold I64 at hn
  obtain ⟨u, hu⟩ : ∃ u : Nat, u = n.natAbs := ⟨_, rfl⟩
  have hu63 : u ≤ 9223372036854775808 := by omega
  by_cases hneg : n < 0
  · have hw : IntKind.u64.wrap n = n + 18446744073709551616 := by simp [IntKind.wrap, IntKind.bits, IntKind.signed]; omega
    have hw2 : IntKind.u64.wrap (-(n + 18446744073709551616)) = (u : Int) := by rw [hu]; simp [IntKind.wrap, IntKind.bits, IntKind.signed]; omega
    have HI := Lib.hid (show Go.Lib.itoa n = [45] ++ Go.Lib.decDigits u by unfold Go.Lib.itoa; rw [if_pos hneg, hu]; rfl)
    clear hu
    go_enter Tryz.func215, Tryz.ntmps215
    go_wp2
    go_loopw [3, 5] (fun s3 s5 wr => ∃ (v : Nat) (S : ByteArray), s3 = .int .u64 v ∧ s5 = .string S ∧ Digs w u v S wr) (fun s3 _ _ => (RowKit.intOf s3).toNat)
    case atStart => exact ⟨u, ⟨#[]⟩, by go_num, rfl, Nat.le_refl _, by simp, Mod.refl _ _⟩
    case round =>
      obtain ⟨v, S, rfl, rfl, hd⟩ := hrel
      have hv := hd.1
      have hS : S.size ≤ 20 := by
        have h1 := congrArg List.length hd.2.1
        have h2 := itoa_le n hn0
        rw [HI.out] at h2
        rw [List.length_append] at h1 h2
        rw [Lib.size_eq]; omega
      have H := Lib.hid hd
      clear hd
      by_cases hv10 : v < 10
      · have hvi : ¬ (10 : Int) ≤ (v : Int) := by omega
        have hcv := one_byte wr (UInt8.ofNat (48 + v))
        rw [dig_byte v hv10] at hcv
        have HCV := Lib.hid hcv
        have HF := Lib.hid (show ∀ (P : ByteArray), P.data.toList = [45] → (P ++ (⟨#[UInt8.ofNat (48 + v)]⟩ : ByteArray) ++ S) = ⟨(Go.Lib.itoa n).toArray⟩ from fun P hP => by
          refine str_is ?_
          rw [app_str, app_str, hP, HI.out, ← H.out.2.1, dec_small hv10, List.append_assoc])
        clear hcv
        go_wp2_with fail
        rw [HCV.out]
        clear HCV
        go_wp2
        refine bodyPost_ret (results_tmp Tryz.results215 _ _ _) rfl ?_
        exact ⟨by rw [← HF.out ⟨#[45]⟩ rfl]; simp, H.out.2.2.alloc _⟩
      · have hvi : (10 : Int) ≤ (v : Int) := by omega
        have hcv := one_byte wr (UInt8.ofNat (48 + v % 10))
        rw [dig_byte (v % 10) (by omega), show ((v % 10 : Nat) : Int) = (v : Int) % 10 from by omega] at hcv
        have HCV := Lib.hid hcv
        have HN := Lib.hid (show Digs w u (v / 10) ((⟨#[UInt8.ofNat (48 + v % 10)]⟩ : ByteArray) ++ S) (wr.alloc (.cells #[.int .u8 (48 + (v : Int) % 10)] 5)) from ⟨by omega, by
          rw [app_str, ← List.append_assoc, ← H.out.2.1, dec_more hv10], H.out.2.2.alloc _⟩)
        clear hcv
        go_wp2_with fail
        rw [HCV.out]
        clear HCV
        go_wp2
        go_roundw
        case rel => exact ⟨v / 10, _, by go_num, rfl, by have h := HN.out; rw [UInt8.ofNat_add] at h; exact h⟩
        case measure => simp [RowKit.intOf]; omega
  · have hw : IntKind.u64.wrap n = (u : Int) := by rw [hu]; simp [IntKind.wrap, IntKind.bits, IntKind.signed]; omega
    have HI := Lib.hid (show Go.Lib.itoa n = [] ++ Go.Lib.decDigits u by unfold Go.Lib.itoa; rw [if_neg hneg, hu]; simp; congr 1; omega)
    clear hu
    go_enter Tryz.func215, Tryz.ntmps215
    go_wp2
    go_loopw [3, 5] (fun s3 s5 wr => ∃ (v : Nat) (S : ByteArray), s3 = .int .u64 v ∧ s5 = .string S ∧ Digs w u v S wr) (fun s3 _ _ => (RowKit.intOf s3).toNat)
    case atStart => exact ⟨u, ⟨#[]⟩, by go_num, rfl, Nat.le_refl _, by simp, Mod.refl _ _⟩
    case round =>
      obtain ⟨v, S, rfl, rfl, hd⟩ := hrel
      have hv := hd.1
      have hS : S.size ≤ 20 := by
        have h1 := congrArg List.length hd.2.1
        have h2 := itoa_le n hn0
        rw [HI.out] at h2
        rw [List.length_append] at h1 h2
        rw [Lib.size_eq]; omega
      have H := Lib.hid hd
      clear hd
      by_cases hv10 : v < 10
      · have hvi : ¬ (10 : Int) ≤ (v : Int) := by omega
        have hcv := one_byte wr (UInt8.ofNat (48 + v))
        rw [dig_byte v hv10] at hcv
        have HCV := Lib.hid hcv
        have HF := Lib.hid (show ∀ (P : ByteArray), P.data.toList = [] → (P ++ (⟨#[UInt8.ofNat (48 + v)]⟩ : ByteArray) ++ S) = ⟨(Go.Lib.itoa n).toArray⟩ from fun P hP => by
          refine str_is ?_
          rw [app_str, app_str, hP, HI.out, ← H.out.2.1, dec_small hv10, List.append_assoc])
        clear hcv
        go_wp2_with fail
        rw [HCV.out]
        clear HCV
        go_wp2
        refine bodyPost_ret (results_tmp Tryz.results215 _ _ _) rfl ?_
        exact ⟨by rw [← HF.out ⟨#[]⟩ rfl]; simp, H.out.2.2.alloc _⟩
      · have hvi : (10 : Int) ≤ (v : Int) := by omega
        have hcv := one_byte wr (UInt8.ofNat (48 + v % 10))
        rw [dig_byte (v % 10) (by omega), show ((v % 10 : Nat) : Int) = (v : Int) % 10 from by omega] at hcv
        have HCV := Lib.hid hcv
        have HN := Lib.hid (show Digs w u (v / 10) ((⟨#[UInt8.ofNat (48 + v % 10)]⟩ : ByteArray) ++ S) (wr.alloc (.cells #[.int .u8 (48 + (v : Int) % 10)] 5)) from ⟨by omega, by
          rw [app_str, ← List.append_assoc, ← H.out.2.1, dec_more hv10], H.out.2.2.alloc _⟩)
        clear hcv
        go_wp2_with fail
        rw [HCV.out]
        clear HCV
        go_wp2
        go_roundw
        case rel => exact ⟨v / 10, _, by go_num, rfl, by have h := HN.out; rw [UInt8.ofNat_add] at h; exact h⟩
        case measure => simp [RowKit.intOf]; omega
end Go.Proofs.YtjieelmbgfnllaaGreatDoor

namespace Go.Proofs.YtjieelmbgfnllaaGreatDoor
open Go.RowKit Scr

set_option maxRecDepth 100000 in
set_option maxHeartbeats 8000000 in
theorem empty_walk (w : World) (o : OpS) (wv : Value) (h : SeenWrs w wv o.writes) :
    Calls Tryz.prog 213 #[.agg #[.int .i64 o.kind, wv, .bool o.sync, .string ⟨o.key.toArray⟩, .string ⟨o.til.toArray⟩, .int .i64 o.n, .int .i64 o.snap]] w fun e w' => e = .returned (.bool (decide (o = OpS.zero))) ∧ Mod [] w w' := by
  obtain ⟨A, c, rfl, _⟩ := h
  obtain ⟨k, l, b, y, t, n, p⟩ := o
  simp only []
  by_cases hf : k = 0
  rotate_left
  · rw [decide_eq_false (fun e => hf (congrArg OpS.kind e))]
    have hb : (k == 0) = false := by rw [beq_eq_false_iff_ne]; exact hf
    go_enter Tryz.func213, Tryz.ntmps213
    go_wp2
    go_ret
    exact ⟨rfl, (Mod.refl _ _).alloc _⟩
  subst hf
  by_cases hf : l = []
  rotate_left
  · rw [decide_eq_false (fun e => hf (congrArg OpS.writes e))]
    have hb : ¬ (l.length : Int) = 0 := by
      have := List.length_pos_iff.2 hf
      omega
    generalize l.length = nw at hb ⊢
    go_enter Tryz.func213, Tryz.ntmps213
    go_wp2
    go_ret
    exact ⟨rfl, (Mod.refl _ _).alloc _⟩
  subst hf
  rcases b with _ | _
  rotate_left
  · rw [decide_eq_false (fun e => by cases (congrArg OpS.sync e))]
    go_enter Tryz.func213, Tryz.ntmps213
    go_wp2
    go_ret
    exact ⟨rfl, (Mod.refl _ _).alloc _⟩
  by_cases hf : y = []
  rotate_left
  · rw [decide_eq_false (fun e => hf (congrArg OpS.key e))]
    have hb : ((⟨y.toArray⟩ : ByteArray).toList == []) = false := by
      rw [beq_eq_false_iff_ne, Lib.toList_data]; exact hf
    go_enter Tryz.func213, Tryz.ntmps213
    go_wp2
    go_ret
    exact ⟨rfl, (Mod.refl _ _).alloc _⟩
  subst hf
  by_cases hf : t = []
  rotate_left
  · rw [decide_eq_false (fun e => hf (congrArg OpS.til e))]
    have hb : ((⟨t.toArray⟩ : ByteArray).toList == []) = false := by
      rw [beq_eq_false_iff_ne, Lib.toList_data]; exact hf
    go_enter Tryz.func213, Tryz.ntmps213
    go_wp2
    go_ret
    exact ⟨rfl, (Mod.refl _ _).alloc _⟩
  subst hf
  by_cases hf : n = 0
  rotate_left
  · rw [decide_eq_false (fun e => hf (congrArg OpS.n e))]
    have hb : (n == 0) = false := by rw [beq_eq_false_iff_ne]; exact hf
    go_enter Tryz.func213, Tryz.ntmps213
    go_wp2
    go_ret
    exact ⟨rfl, (Mod.refl _ _).alloc _⟩
  subst hf
  by_cases hf : p = 0
  rotate_left
  · rw [decide_eq_false (fun e => hf (congrArg OpS.snap e))]
    have hb : (p == 0) = false := by rw [beq_eq_false_iff_ne]; exact hf
    go_enter Tryz.func213, Tryz.ntmps213
    go_wp2
    go_ret
    exact ⟨rfl, (Mod.refl _ _).alloc _⟩
  subst hf
  rw [decide_eq_true (show (⟨0, [], false, [], [], 0, 0⟩ : OpS) = OpS.zero from rfl)]
  go_enter Tryz.func213, Tryz.ntmps213
  go_wp2
  go_ret
  exact ⟨rfl, (Mod.refl _ _).alloc _⟩
end Go.Proofs.YtjieelmbgfnllaaGreatDoor
