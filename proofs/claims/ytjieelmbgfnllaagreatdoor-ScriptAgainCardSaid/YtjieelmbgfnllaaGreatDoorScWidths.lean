/- width and marked of the laws: how many bytes a number and a quoted text take. Conditions: the number is within forty digits of two; the text has at most 70000 bytes. -/
import Derived.Test.YtjieelmbgfnllaaGreatDoorScSteps
import Derived.Test.YtjieelmbgfnllaaGreatDoorScErrs
namespace Go.Proofs.YtjieelmbgfnllaaGreatDoor
open Go.RowKit Scr

theorem digits_small {u : Nat} (h : u < 10) : (Go.Lib.decDigits u).length = 1 := by rw [decDigits_small h]; rfl
theorem digits_big {u : Nat} (h : ¬ u < 10) : (Go.Lib.decDigits u).length = (Go.Lib.decDigits (u / 10)).length + 1 := by rw [decDigits_big h, List.length_append]; rfl
theorem width_pos {x : Int} (h : ¬ x < 0) : widthL x = (Go.Lib.decDigits x.natAbs).length := by
  unfold widthL Go.Lib.itoa; rw [if_neg h]; congr 2; omega
theorem width_neg {x : Int} (h : x < 0) : widthL x = 1 + (Go.Lib.decDigits x.natAbs).length := by
  unfold widthL Go.Lib.itoa; rw [if_pos h]; simp; omega
theorem width_le {x : Int} (h : I64 x) : widthL x ≤ 20 := itoa_le x h

set_option maxRecDepth 100000 in
set_option maxHeartbeats 4000000 in
theorem width_walk (w : World) (x : Int) (hx : I64 x) (hmin : -9223372036854775808 < x) :
    Calls Tryz.prog 88 #[.int .i64 x] w fun e w' => e = .returned (.int .i64 (widthL x)) ∧ w' = w := by
  have hwid := width_le hx
  obtain ⟨hx1, hx2⟩ := hx
  by_cases hneg : x < 0
  · have hW := width_neg hneg
    obtain ⟨u, hu⟩ : ∃ u : Nat, u = x.natAbs := ⟨_, rfl⟩
    obtain rfl : x = -(u : Int) := by omega
    rw [← hu] at hW
    rw [hW] at hwid ⊢
    clear hW hu
    obtain ⟨m, hm⟩ : ∃ m, m = (Go.Lib.decDigits u).length := ⟨_, rfl⟩
    rw [← hm] at hwid ⊢
    have HM := Lib.hid hm
    clear hm
    have hwr : IntKind.i64.wrap (- -(u : Int)) = (u : Int) := by simp [IntKind.wrap, IntKind.bits, IntKind.signed]; omega
    go_enter Tryz.func88, Tryz.ntmps88
    go_wp2
    go_loopw [0, 3] (fun s0 s3 wr => ∃ v k : Nat, s0 = .int .i64 v ∧ s3 = .int .i64 k ∧ v ≤ u ∧ k + (Go.Lib.decDigits v).length = 2 + m ∧ wr = w) (fun s0 _ _ => (RowKit.intOf s0).toNat)
    case atStart => exact ⟨u, 2, by first | rfl | go_num | simp, by go_num, Nat.le_refl _, by rw [HM.out], rfl⟩
    case round =>
      obtain ⟨v, k, rfl, rfl, hvu, hk, rfl⟩ := hrel
      by_cases hv : v < 10
      · rw [digits_small hv] at hk
        have hvi : ¬ (10 : Int) ≤ (v : Int) := by omega
        obtain rfl : k = 1 + m := by omega
        go_wp2
        go_ret
        exact ⟨rfl, rfl⟩
      · rw [digits_big hv] at hk
        have hvi : (10 : Int) ≤ (v : Int) := by omega
        go_wp2
        go_roundw
        case rel => exact ⟨v / 10, k + 1, by go_num, by go_num, by omega, by omega, trivial⟩
        case measure => simp [RowKit.intOf]; omega
  · have hW := width_pos hneg
    obtain ⟨u, rfl⟩ : ∃ u : Nat, x = u := ⟨x.toNat, by omega⟩
    simp only [Int.natAbs_natCast] at hW
    rw [hW] at hwid ⊢
    clear hW
    obtain ⟨m, hm⟩ : ∃ m, m = (Go.Lib.decDigits u).length := ⟨_, rfl⟩
    rw [← hm] at hwid ⊢
    have HM := Lib.hid hm
    clear hm
    go_enter Tryz.func88, Tryz.ntmps88
    go_wp2
    go_loopw [0, 3] (fun s0 s3 wr => ∃ v k : Nat, s0 = .int .i64 v ∧ s3 = .int .i64 k ∧ v ≤ u ∧ k + (Go.Lib.decDigits v).length = 1 + m ∧ wr = w) (fun s0 _ _ => (RowKit.intOf s0).toNat)
    case atStart => exact ⟨u, 1, by first | rfl | go_num | simp, by go_num, Nat.le_refl _, by rw [HM.out], rfl⟩
    case round =>
      obtain ⟨v, k, rfl, rfl, hvu, hk, rfl⟩ := hrel
      by_cases hv : v < 10
      · rw [digits_small hv] at hk
        have hvi : ¬ (10 : Int) ≤ (v : Int) := by omega
        obtain rfl : k = m := by omega
        go_wp2
        go_ret
        exact ⟨rfl, rfl⟩
      · rw [digits_big hv] at hk
        have hvi : (10 : Int) ≤ (v : Int) := by omega
        go_wp2
        go_roundw
        case rel => exact ⟨v / 10, k + 1, by go_num, by go_num, by omega, by omega, trivial⟩
        case measure => simp [RowKit.intOf]; omega

theorem quoteB_two {c : UInt8} (h : c = 34 ∨ c = 92) : (quoteB c).length = 2 := by unfold quoteB; rw [if_pos h]; rfl
theorem quoteB_four {c : UInt8} (h : ¬ (c = 34 ∨ c = 92)) (h2 : c.toNat < 32 ∨ 126 < c.toNat) : (quoteB c).length = 4 := by unfold quoteB; rw [if_neg h, if_pos h2]; rfl
theorem quoteB_one {c : UInt8} (h : ¬ (c = 34 ∨ c = 92)) (h2 : ¬ (c.toNat < 32 ∨ 126 < c.toNat)) : (quoteB c).length = 1 := by unfold quoteB; rw [if_neg h, if_neg h2]; rfl
def mk (l : Bs) (j : Nat) : Nat := 3 + ((l.take j).flatMap quoteB).length
theorem mk_step {l : Bs} {j : Nat} {c : UInt8} (h : l[j]? = some c) : mk l (j + 1) = mk l j + (quoteB c).length := by
  unfold mk
  rw [take_snoc l j c h, List.flatMap_append, List.length_append, List.flatMap_cons, List.flatMap_nil, List.append_nil]; omega
theorem mk_le (l : Bs) (h : l.length ≤ 70000) : ∀ j, mk l j ≤ 280003 := by
  intro j
  unfold mk
  have := flat_le quoteB 4 (l.take j) (fun c _ => quoteB_le c)
  have h2 : (l.take j).length ≤ l.length := by rw [List.length_take]; omega
  have h3 : (l.take j).length * 4 ≤ 280000 := by omega
  omega
theorem mk_all (l : Bs) (j : Nat) (h : l.length ≤ j) : mk l j = markedL l := by
  unfold mk markedL quotingL
  rw [List.take_of_length_le h]; simp; omega
theorem marked_le {l : Bs} (h : l.length ≤ 70000) : markedL l ≤ 280003 := by
  rw [← mk_all l l.length (Nat.le_refl _)]; exact mk_le l h _

set_option maxRecDepth 100000 in
set_option maxHeartbeats 4000000 in
theorem marked_walk (w : World) (T : ByteArray) (hT : T.size ≤ 70000) :
    Calls Tryz.prog 89 #[.string T] w fun e w' => e = .returned (.int .i64 (markedL T.data.toList)) ∧ w' = w := by
  have hle := mk_le T.data.toList (by rw [← Lib.size_eq]; exact hT)
  go_enter Tryz.func89, Tryz.ntmps89
  go_wp2
  go_loopw [3, 4] (fun s3 s4 wr => ∃ j k : Nat, s4 = .int .i64 j ∧ s3 = .int .i64 k ∧ j ≤ T.size ∧ k = mk T.data.toList j ∧ wr = w) (fun _ s4 _ => T.size - (RowKit.intOf s4).toNat)
  case atStart => exact ⟨0, 3, by go_num, by go_num, Nat.zero_le _, by simp [mk], rfl⟩
  case round =>
    obtain ⟨j, k, rfl, rfl, hj, hk, rfl⟩ := hrel
    have hkl := hle j
    rw [← hk] at hkl
    by_cases hjl : j < T.size
    · obtain ⟨c, hc⟩ : ∃ c, T.data.toList[j]? = some c := ⟨_, List.getElem?_eq_getElem (by rw [← Lib.size_eq]; omega)⟩
      have hce : T[j]'hjl = c := by
        have := byte_at T j hjl
        rw [hc] at this; exact (Option.some.inj this).symm
      have hst := mk_step hc
      rw [← hk] at hst
      clear hc
      have HST := Lib.hid hst
      clear hst
      by_cases h1 : c = 34 ∨ c = 92
      · have hq := quoteB_two h1
        rw [hq] at HST
        clear hq
        rcases h1 with rfl | rfl
        · go_wp2
          go_roundw
          case rel => exact ⟨j + 1, k + 2, by go_num, by go_num, by omega, HST.out.symm, trivial⟩
          case measure => simp [RowKit.intOf]; omega
        · go_wp2
          go_roundw
          case rel => exact ⟨j + 1, k + 2, by go_num, by go_num, by omega, HST.out.symm, trivial⟩
          case measure => simp [RowKit.intOf]; omega
      · have hn1 : ((c.toNat : Int) == 34) = false := by
          rw [beq_eq_false_iff_ne]; intro e; exact h1 (.inl (UInt8.toNat_inj.1 (by simp; omega)))
        have hn2 : ((c.toNat : Int) == 92) = false := by
          rw [beq_eq_false_iff_ne]; intro e; exact h1 (.inr (UInt8.toNat_inj.1 (by simp; omega)))
        by_cases h2 : c.toNat < 32 ∨ 126 < c.toNat
        · have hq := quoteB_four h1 h2
          rw [hq] at HST
          clear hq h1
          rcases h2 with h2 | h2
          · have h3 : ¬ (32 : Int) ≤ (c.toNat : Int) := by omega
            go_wp2
            go_roundw
            case rel => exact ⟨j + 1, k + 4, by go_num, by go_num, by omega, HST.out.symm, trivial⟩
            case measure => simp [RowKit.intOf]; omega
          · have h3 : (32 : Int) ≤ (c.toNat : Int) := by omega
            have h4 : ¬ (c.toNat : Int) ≤ 126 := by omega
            go_wp2
            go_roundw
            case rel => exact ⟨j + 1, k + 4, by go_num, by go_num, by omega, HST.out.symm, trivial⟩
            case measure => simp [RowKit.intOf]; omega
        · have hq := quoteB_one h1 h2
          rw [hq] at HST
          clear hq h1
          have h3 : (32 : Int) ≤ (c.toNat : Int) := by omega
          have h4 : (c.toNat : Int) ≤ 126 := by omega
          go_wp2
          go_roundw
          case rel => exact ⟨j + 1, k + 1, by go_num, by go_num, by omega, HST.out.symm, trivial⟩
          case measure => simp [RowKit.intOf]; omega
    · have hall := mk_all T.data.toList j (by rw [← Lib.size_eq]; omega)
      rw [← hk] at hall
      go_wp2
      go_ret
      exact ⟨by rw [← hall]; rfl, rfl⟩

theorem wrap64 {n : Int} (h1 : -9223372036854775808 ≤ n) (h2 : n ≤ 9223372036854775807) : IntKind.i64.wrap n = n := by simp [IntKind.wrap, IntKind.bits, IntKind.signed]; omega
theorem canon_nums {s : StepS} (h : Canon s) : Num40 s.a ∧ Num40 s.b ∧ Num40 s.c ∧ Num40 s.op.n ∧ Num40 s.op.snap ∧ ∀ x ∈ s.keep, Num40 x := by
  have z : Num40 0 := by unfold Num40; omega
  cases h with
  | tick => exact ⟨z, z, z, z, z, by simp [StepS.zero]⟩
  | mach a ha => exact ⟨ha, z, z, z, z, by simp [StepS.zero]⟩
  | arm a ha => exact ⟨ha, z, z, z, z, by simp [StepS.zero]⟩
  | fall a l ha hl => exact ⟨ha, z, z, z, z, fun x hx => hl x hx⟩
  | fail a b c ha hb hc => exact ⟨ha, hb, hc, z, z, by simp [StepS.zero]⟩
  | op a o ha ho =>
    cases ho with
    | write l sy hl => exact ⟨ha, z, z, z, z, by simp [StepS.zero]⟩
    | sync => exact ⟨ha, z, z, z, z, by simp [StepS.zero]⟩
    | snap => exact ⟨ha, z, z, z, z, by simp [StepS.zero]⟩
    | release n hn => exact ⟨ha, z, z, z, hn, by simp [StepS.zero]⟩
    | get k n hn => exact ⟨ha, z, z, z, hn, by simp [StepS.zero]⟩
    | scan k t m n hm hn => exact ⟨ha, z, z, hm, hn, by simp [StepS.zero]⟩
theorem canon_kind {s : StepS} (h : Canon s) : s.kind = 3 ∨ s.kind = 2 ∨ s.kind = 5 ∨ s.kind = 6 ∨ s.kind = 4 ∨ s.kind = 1 ∧ (s.op.kind = 1 ∧ s.op.snap = 0 ∨ s.op.kind = 2 ∧ s.op.snap = 0 ∨ s.op.kind = 5 ∧ s.op.snap = 0 ∨ s.op.kind = 3 ∨ s.op.kind = 4 ∨ s.op.kind = 6) := by
  cases h with
  | tick => simp
  | mach a ha => simp
  | arm a ha => simp
  | fall a l ha hl => simp
  | fail a b c ha hb hc => simp
  | op a o ha ho => cases ho <;> simp [OpS.zero]
theorem width40 (w : World) {x : Int} (h : Num40 x) : Calls Tryz.prog 88 #[.int .i64 x] w fun e w' => e = .returned (.int .i64 (widthL x)) ∧ w' = w :=
  width_walk w x h.i64 (by unfold Num40 at h; omega)
theorem wid40 {x : Int} (h : Num40 x) : widthL x ≤ 20 := width_le h.i64
theorem marked_of (w : World) (l : Bs) (h : l.length ≤ 70000) : Calls Tryz.prog 89 #[.string ⟨l.toArray⟩] w fun e w' => e = .returned (.int .i64 (markedL l)) ∧ w' = w :=
  marked_walk w ⟨l.toArray⟩ (by simpa [ByteArray.size] using h)
def keepSum (l : List Int) (j : Nat) : Nat := ((l.take j).map fun x => 1 + widthL x).sum
theorem sum_snoc {α : Type} (f : α → Nat) {l : List α} {j : Nat} {x : α} (h : l[j]? = some x) : ((l.take (j + 1)).map f).sum = ((l.take j).map f).sum + f x := by
  rw [take_snoc l j x h, List.map_append, List.sum_append]; simp
theorem sum_le {α : Type} (f : α → Nat) (n : Nat) : ∀ l : List α, (∀ x ∈ l, f x ≤ n) → (l.map f).sum ≤ l.length * n
  | [], _ => by simp
  | x :: l, h => by
    have h1 := sum_le f n l (fun y hy => h y (List.mem_cons_of_mem _ hy))
    have h2 := h x (List.mem_cons_self ..)
    rw [List.map_cons, List.sum_cons, List.length_cons, Nat.add_mul]; omega
def wrLen (x : Wr) : Nat := 4 + markedL x.key + if x.del then 0 else markedL x.val
theorem wr_sum_le {l : List Wr} (hl : l.length ≤ 70000) (hx : ∀ x ∈ l, x.key.length ≤ 70000 ∧ x.val.length ≤ 70000) (j : Nat) : ((l.take j).map wrLen).sum ≤ 39200700000 := by
  have h0 := sum_le wrLen 560010 (l.take j) (fun x hm => by
    have h := hx x (List.mem_of_mem_take hm)
    have h3 := marked_le h.1
    have h4 := marked_le h.2
    unfold wrLen; split <;> omega)
  have h00 : (l.take j).length ≤ 70000 := by rw [List.length_take]; omega
  exact Nat.le_trans h0 (Nat.le_trans (Nat.mul_le_mul_right _ h00) (by decide))
theorem keep_sum_le {l : List Int} (hl : l.length ≤ 70000) (hx : ∀ x ∈ l, Num40 x) (j : Nat) : keepSum l j ≤ 1470000 := by
  have h0 := sum_le (fun x => 1 + widthL x) 21 (l.take j) (fun x hm => by have := wid40 (hx x (List.mem_of_mem_take hm)); omega)
  have h00 : (l.take j).length ≤ 70000 := by rw [List.length_take]; omega
  exact Nat.le_trans h0 (Nat.le_trans (Nat.mul_le_mul_right _ h00) (by decide))
theorem op_rangeA {X : World} {g : Nat} {s : StepS} {wv kv : Value} (h : Blk X g 69 (stepCells s wv kv)) : X.rangeAt g 4 [.int .i64 s.op.kind, wv, .bool s.op.sync, .string ⟨s.op.key.toArray⟩, .string ⟨s.op.til.toArray⟩, .int .i64 s.op.n, .int .i64 s.op.snap] := op_range h
theorem wpList_store_op {ops : Array Oper} {rest : List Oper} {o : Oper} {a : Act} {w : World} {Q : Exit → Act → World → Prop} (hgd : o.guard = none) (x y : Operand) (ho : o.op = .store 67 x y)
    (g : Nat) (cells : Array Value) (hx : a.eval x = .pointer (some ⟨g, 0, none⟩)) (hy : a.eval y = .agg cells)
    (old : Array Value) (hg : Blk w g 67 old) (hc : (Tryz.prog.info? 67).map (·.size) = some cells.size) (hold : old.size = cells.size) (h1 : cells.all (·.oneCell') = true)
    (h : ∀ w', w'.heap.size = w.heap.size → Blk w' g 67 cells → Mod [g] w w' → wpList Tryz.prog ops Q rest (a.put o.dst undef) w') : wpList Tryz.prog ops Q (o :: rest) a w :=
  wpList_store_row hgd 67 x y ho g cells hx hy 67 old hg hc hold h1 (h _ (by simp) hg.setRow ((Mod.refl _ _).setRow (.inl (by simp)) _))

end Go.Proofs.YtjieelmbgfnllaaGreatDoor
