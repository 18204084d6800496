/- What stands behind a backslash (escape), and a quoted text ((*reader).quote): what they hand back. Conditions: a line of at most 2^40 bytes. -/
import Derived.Test.YtjieelmbgfnllaaGreatDoorScNext
import Derived.Test.YtjieelmbgfnllaaGreatDoorScShelf
namespace Go.Proofs.YtjieelmbgfnllaaGreatDoor
open Go.RowKit Scr Go.Lib

def escapeL : Bs → Option (UInt8 × Nat)
  | [] => none
  | d :: u =>
    if d = 34 ∨ d = 92 then some (d, 1)
    else if d = 120 then
      match u with
      | a :: b :: _ => match hexv a, hexv b with
        | some x, some y => some (UInt8.ofNat (16 * x + y), 3)
        | _, _ => none
      | _ => none
    else none

theorem quoteL_escape (t : Bs) : quoteL (92 :: t) = match escapeL t with
    | none => none
    | some x => (quoteL (t.drop x.2)).map fun p => (x.1 :: p.1, p.2 + (x.2 + 1)) := by
  rw [quoteL.eq_def]
  simp only []
  rw [if_neg (by decide), if_neg (by decide), if_neg (by decide)]
  match t with
  | [] => rfl
  | d :: u =>
    simp only [escapeL]
    by_cases h1 : d = 34 ∨ d = 92
    · rw [if_pos h1, if_pos h1]; rfl
    · rw [if_neg h1, if_neg h1]
      by_cases h2 : d = 120
      · rw [if_pos h2, if_pos h2]
        match u with
        | [] => rfl
        | [a] => rfl
        | a :: b :: v =>
          simp only []
          cases hexv a with
          | none => rfl
          | some x =>
            cases hexv b with
            | none => rfl
            | some y => rfl
      · rw [if_neg h2, if_neg h2]

def hexDigits : ByteArray := ⟨#[48, 49, 50, 51, 52, 53, 54, 55, 56, 57, 97, 98, 99, 100, 101, 102]⟩
theorem hex_index_nat : ∀ n : Fin 256, Lib.indexByte hexDigits.data.toList (UInt8.ofNat n.val) = match hexv (UInt8.ofNat n.val) with | some v => (v : Int) | none => -1 := by decide +kernel
theorem hex_index (c : UInt8) : Lib.indexByte hexDigits.data.toList (c.toNat : Int).toNat.toUInt8 = match hexv c with | some v => (v : Int) | none => -1 := by
  have h := hex_index_nat ⟨c.toNat, c.toNat_lt⟩
  have e : UInt8.ofNat c.toNat = c := by simp
  simp only [e] at h
  have e2 : (c.toNat : Int).toNat.toUInt8 = c := by simp
  rw [e2]; exact h

def hexI (c : UInt8) : Int := match hexv c with | some v => (v : Int) | none => -1
theorem index_of (c : UInt8) (W : World) : Calls Tryz.prog 245 #[.string ⟨#[48, 49, 50, 51, 52, 53, 54, 55, 56, 57, 97, 98, 99, 100, 101, 102]⟩, .int .u8 c.toNat] W fun e w' => e = .returned (.int .i64 (hexI c)) ∧ w' = W := by
  have h := Tryz.strings_IndexByte hexDigits c.toNat W
  rw [hex_index] at h
  exact h
theorem hexv_lt {c : UInt8} {v : Nat} (h : hexv c = some v) : v < 16 := by
  unfold hexv at h
  split at h
  · cases h; omega
  · split at h
    · cases h; omega
    · cases h

def EscPost (w : World) (l : Bs) (e : Ending) (w' : World) : Prop :=
  (match escapeL l with
  | none => e = .returned (.tuple #[.int .u8 0, .int .i64 0])
  | some x => e = .returned (.tuple #[.int .u8 x.1.toNat, .int .i64 x.2])) ∧ ∃ n, w' = w.drewN n

set_option maxRecDepth 100000 in
set_option maxHeartbeats 4000000 in
theorem escape_walk (w : World) (s : ByteArray) (hs : s.size ≤ 1099511627776) :
    Calls Tryz.prog 228 #[.string s] w (EscPost w s.data.toList) := by
  have hlen : s.size = s.data.toList.length := Lib.size_eq s
  rcases hl : s.data.toList with _ | ⟨d, u⟩
  · have he : s.toList.isEmpty = true := by rw [Lib.toList_data, hl]; rfl
    clear hl hlen
    go_enter Tryz.func228, Tryz.ntmps228
    go_wp2
    go_ret2
    exact ⟨rfl, 0, rfl⟩
  · have he : s.toList.isEmpty = false := by rw [Lib.toList_data, hl]; rfl
    have h0 : 0 < s.size := by rw [hlen, hl]; simp
    have hd : s[0] = d := by
      have := byte_at s 0 h0
      rw [hl] at this; simpa using this.symm
    have hu : u.length + 1 = s.size := by rw [hlen, hl]; simp
    by_cases h1 : d = 34 ∨ d = 92
    · have hE : escapeL (d :: u) = some (d, 1) := by unfold escapeL; simp [h1]
      have HE := Lib.hid (show EscPost w (d :: u) (.returned (.tuple #[.int .u8 d.toNat, .int .i64 1])) w from by unfold EscPost; rw [hE]; exact ⟨rfl, 0, rfl⟩)
      clear hE hl hlen hu
      rcases h1 with rfl | rfl
      all_goals
        go_enter Tryz.func228, Tryz.ntmps228
        go_wp2
        go_ret2
        exact HE.out
    · have h34 : ((d.toNat : Int) == 34) = false := by
        rw [beq_eq_false_iff_ne]; intro e; exact h1 (.inl (UInt8.toNat_inj.1 (by simp; omega)))
      have h92 : ((d.toNat : Int) == 92) = false := by
        rw [beq_eq_false_iff_ne]; intro e; exact h1 (.inr (UInt8.toNat_inj.1 (by simp; omega)))
      by_cases h2 : d = 120
      · subst h2
        match u, hu with
        | [], hu | [a], hu =>
          have HE := Lib.hid (show EscPost w s.data.toList (.returned (.tuple #[.int .u8 0, .int .i64 0])) w from by rw [hl]; exact ⟨rfl, 0, rfl⟩)
          rw [hl] at HE
          have h3 : (s.size : Int) < 3 := by simp at hu; omega
          clear hl hlen hu h1 h34 h92
          go_enter Tryz.func228, Tryz.ntmps228
          go_wp2
          go_ret2
          exact HE.out
        | a :: b :: v, hu =>
          have h3 : 3 ≤ s.size := by simp at hu; omega
          have hs1 : 1 < s.size := by omega
          have hs2 : 2 < s.size := by omega
          have ha : s[1]'hs1 = a := by
            have := byte_at s 1 hs1
            rw [hl] at this; simpa using this.symm
          have hb : s[2]'hs2 = b := by
            have := byte_at s 2 hs2
            rw [hl] at this; simpa using this.symm
          have hE : escapeL (120 :: a :: b :: v) = match hexv a, hexv b with
            | some x, some y => some (UInt8.ofNat (16 * x + y), 3)
            | _, _ => none := rfl
          have cA := fun W => index_of a W
          have cB := fun W => index_of b W
          have HC := Lib.hid (And.intro cA cB)
          clear hl hlen hu h1 h34 h92 cA cB
          have hs1I : (1 : Int) < (s.size : Int) := by omega
          have hs2I : (2 : Int) < (s.size : Int) := by omega
          rcases hxa : hexv a with _ | x
          · rw [hxa] at hE
            have eA : hexI a = -1 := by unfold hexI; rw [hxa]
            rw [eA] at HC
            have HE := Lib.hid (show ∀ n, EscPost w (120 :: a :: b :: v) (.returned (.tuple #[.int .u8 0, .int .i64 0])) (w.drewN n) from by intro n; unfold EscPost; rw [hE]; exact ⟨rfl, n, rfl⟩)
            clear hE hxa eA
            go_enter Tryz.func228, Tryz.ntmps228
            go_wp2
            go_quiet ((go_at_call 245; first | exact Calls.quiet_of_same (HC.out.1 _) | exact Calls.quiet_of_same (HC.out.2 _)))
            go_wp2
            go_ret2
            exact HE.out _
          · have hx := hexv_lt hxa
            have eA : hexI a = (x : Int) := by unfold hexI; rw [hxa]
            rw [eA] at HC
            rcases hxb : hexv b with _ | y
            · rw [hxa, hxb] at hE
              have eB : hexI b = -1 := by unfold hexI; rw [hxb]
              rw [eB] at HC
              have HE := Lib.hid (show ∀ n, EscPost w (120 :: a :: b :: v) (.returned (.tuple #[.int .u8 0, .int .i64 0])) (w.drewN n) from by intro n; unfold EscPost; rw [hE]; exact ⟨rfl, n, rfl⟩)
              clear hE hxa hxb eA eB
              have hxn : decide ((x : Int) < 0) = false := by simp
              go_enter Tryz.func228, Tryz.ntmps228
              go_wp2
              go_quiet ((go_at_call 245; first | exact Calls.quiet_of_same (HC.out.1 _) | exact Calls.quiet_of_same (HC.out.2 _)))
              go_wp2
              go_ret2
              exact HE.out _
            · have hy := hexv_lt hxb
              rw [hxa, hxb] at hE
              have eB : hexI b = (y : Int) := by unfold hexI; rw [hxb]
              rw [eB] at HC
              have HE := Lib.hid (show ∀ n, EscPost w (120 :: a :: b :: v) (.returned (.tuple #[.int .u8 (16 * (x : Int) + (y : Int)), .int .i64 3])) (w.drewN n) from by
                intro n; unfold EscPost; rw [hE]
                refine ⟨?_, n, rfl⟩
                have : ((UInt8.ofNat (16 * x + y)).toNat : Int) = 16 * (x : Int) + (y : Int) := by
                  rw [UInt8.toNat_ofNat']; omega
                simp only [this]; rfl)
              clear hE hxa hxb eA eB
              have hxn : decide ((x : Int) < 0) = false := by simp
              have hyn : decide ((y : Int) < 0) = false := by simp
              go_enter Tryz.func228, Tryz.ntmps228
              go_wp2
              go_quiet ((go_at_call 245; first | exact Calls.quiet_of_same (HC.out.1 _) | exact Calls.quiet_of_same (HC.out.2 _)))
              go_wp2
              go_ret2
              exact HE.out _
      · have h120 : ((d.toNat : Int) == 120) = false := by
          rw [beq_eq_false_iff_ne]; intro e; exact h2 (UInt8.toNat_inj.1 (by simp; omega))
        have hE : escapeL (d :: u) = none := by unfold escapeL; simp [h1, h2]
        have HE := Lib.hid (show EscPost w (d :: u) (.returned (.tuple #[.int .u8 0, .int .i64 0])) w from by unfold EscPost; rw [hE]; exact ⟨rfl, 0, rfl⟩)
        clear hE hl hlen hu h1
        have hn120 : ((d.toNat : Int) != 120) = true := by simp [bne, h120]
        go_enter Tryz.func228, Tryz.ntmps228
        go_wp2
        go_ret2
        exact HE.out

theorem info_u8 : (Tryz.prog.info? 5).map (fun i => (i.zero, i.size, i.bytes)) = some (some (.int .u8 0), 1, 1) := by kernel_rfl

theorem conv_own {w : World} {base : Nat} {v : Value} {l : List UInt8} (h : w.ownsRow base 5 1 v l.length (Lib.byteCells l)) :
    (convert 78 9 v).run Tryz.prog w = .ok (.string ⟨l.toArray⟩) w := by
  rcases h.2 with ⟨rfl, h0⟩ | ⟨g, cap, cur, rfl, _, hb, _, _, _, hcur⟩
  · have hl : l = [] := List.eq_nil_of_length_eq_zero h0
    subst hl
    exact run_convert_bytes_nil w 78 5 Tryz.underlying78 Tryz.underlying5 0 0 9 Tryz.underlying9
  · refine run_convert_bytes_back w 78 9 5 ⟨g, 0, none⟩ cap l Tryz.underlying78 Tryz.underlying5 Tryz.underlying9 fun j hj => ?_
    have hc := h.cells (g := g) rfl j (.int .u8 (l[j].toNat : Int)) (by simp [Lib.byteCells, hj])
    exact hc

end Go.Proofs.YtjieelmbgfnllaaGreatDoor
