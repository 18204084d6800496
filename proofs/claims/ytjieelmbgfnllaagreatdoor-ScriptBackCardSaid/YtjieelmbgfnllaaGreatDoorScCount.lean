/- The count of parts that stops early (screeroom.Count), and small of the laws; a list of steps among a call's arguments, opened: its rows stand in memory. Conditions: texts and lists of at most 2^47 bytes each. -/
import Derived.Test.YtjieelmbgfnllaaGreatDoorScEq
import Derived.Test.YtjieelmbgfnllaaGreatDoorScRow
import Derived.SevenTiedAt
namespace Go.Proofs.YtjieelmbgfnllaaGreatDoor
open Go.RowKit Scr

theorem body_end {P : Program} {fn : Func} {R : Ending → World → Prop} {a : Act} {w : World} (hr : fn.results = #[]) (hd : a.defers = []) (hR : R (.returned (.tuple #[])) w) : bodyPost P fn R .normal a w := by
  exact bodyPost_end (results_none hr _ _ _) hd hR
/-- The counter's block holds k. -/
def Cnt (w : World) (p : Nat) (k : Int) : Prop := Blk w p 138 #[.int .i64 k] ∧ -1125899906842624 ≤ k ∧ k ≤ 65536
/-- The counter fell from a to b; where it did not fall below nothing, by s. -/
def Fell (a b : Int) (s : Nat) : Prop := b ≤ a ∧ (0 ≤ b → b = a - s)
theorem Cnt.drew {w : World} {p : Nat} {k : Int} (h : Cnt w p k) : Cnt w.drew p k := ⟨h.1.drew, h.2⟩
theorem wrap_i64 {n : Int} (h1 : -9223372036854775808 ≤ n) (h2 : n ≤ 9223372036854775807) : IntKind.i64.wrap n = n := by simp [IntKind.wrap, IntKind.bits, IntKind.signed]; omega
theorem Fell.zero (a : Int) : Fell a a 0 := ⟨Int.le_refl _, fun _ => by omega⟩
theorem Fell.trans {a b c : Int} {s t : Nat} (h : Fell a b s) (k : Fell b c t) : Fell a c (s + t) := by
  unfold Fell at *
  obtain ⟨h1, h2⟩ := h
  obtain ⟨k1, k2⟩ := k
  refine ⟨by omega, fun hc => ?_⟩
  have := k2 hc
  have := h2 (by omega)
  omega
theorem Fell.stop {a b : Int} {s t : Nat} (h : Fell a b s) (hb : b < 0) : Fell a b t := ⟨h.1, fun h0 => by omega⟩
def CntPost (w0 : World) (p : Nat) (k : Int) (s : Nat) (w' : World) : Prop := ∃ k', Cnt w' p k' ∧ Fell k k' s ∧ Mod [] w0 w'

def AddPost (w0 : World) (p : Nat) (k : Int) (s : Nat) (e : Ending) (w' : World) : Prop := (∃ b : Bool, e = .returned (.bool b)) ∧ CntPost w0 p k s w'
def VoidPost (w0 : World) (p : Nat) (k : Int) (s : Nat) (e : Ending) (w' : World) : Prop := (∃ v, e = .returned v) ∧ CntPost w0 p k s w'
theorem ok_walk (w : World) (p : Nat) (k : Int) (h : Cnt w p k) : Calls Tryz.prog 28 #[.pointer (some ⟨p, 0, none⟩)] w fun e w' => e = .returned (.bool (decide (0 ≤ k))) ∧ w' = w := by
  have c0 := h.1.cell 0
  simp at c0
  clear h
  go_enter Tryz.func28, Tryz.ntmps28
  go_wp2
  go_ret
  exact ⟨rfl, rfl⟩

set_option maxRecDepth 100000 in
set_option maxHeartbeats 4000000 in
theorem add_walk (w0 w : World) (p : Nat) (k : Int) (n : Nat) (h : Cnt w p k) (hm : Mod [] w0 w) (hp : w0.heap.size ≤ p) (hn : n ≤ 562949953421312) :
    Calls Tryz.prog 90 #[.pointer (some ⟨p, 0, none⟩), .int .i64 n] w (AddPost w0 p k n) := by
  have c0 := h.1.cell 0
  have f0 := h.1.frozen 0
  simp at c0
  have hk1 := h.2.1
  have hk2 := h.2.2
  have H := Lib.hid (And.intro h (And.intro hm hp))
  clear h hm hp
  by_cases hk : 0 ≤ k
  · have hs := H.out.1.1.set_ 0 (.int .i64 (k - n))
    have c1 := hs.cell 0
    simp at c1
    have HS := Lib.hid hs
    clear hs
    go_enter Tryz.func90, Tryz.ntmps90
    go_wp2
    go_ret
    refine ⟨⟨_, rfl⟩, k - n, ⟨HS.out, by omega, by omega⟩, ⟨by omega, fun _ => rfl⟩, H.out.2.1.setCell (.inr H.out.2.2) _⟩
  · go_enter Tryz.func90, Tryz.ntmps90
    go_wp2
    go_ret
    exact ⟨⟨false, rfl⟩, k, H.out.1, ⟨Int.le_refl _, fun h0 => by omega⟩, H.out.2.1⟩

theorem text_walk (w0 w : World) (p : Nat) (k : Int) (t : Bs) (h : Cnt w p k) (hm : Mod [] w0 w) (hp : w0.heap.size ≤ p) (hn : t.length ≤ 140737488355328) :
    Calls Tryz.prog 29 #[.pointer (some ⟨p, 0, none⟩), .string ⟨t.toArray⟩] w (VoidPost w0 p k (1 + t.length)) := by
  have hsz : (⟨t.toArray⟩ : ByteArray).size = t.length := by simp [ByteArray.size]
  have HA := Lib.hid (show Calls Tryz.prog 90 #[.pointer (some ⟨p, 0, none⟩), .int .i64 (1 + (t.length : Int))] w (AddPost w0 p k (1 + t.length)) by
    have := add_walk w0 w p k (1 + t.length) h hm hp (by omega)
    rwa [show (((1 + t.length : Nat)) : Int) = 1 + (t.length : Int) by omega] at this)
  clear h hm hp
  obtain ⟨n, hnn⟩ : ∃ n, n = t.length := ⟨_, rfl⟩
  rw [← hnn] at hsz hn HA ⊢
  clear hnn
  generalize (⟨t.toArray⟩ : ByteArray) = T at hsz ⊢
  subst hsz
  go_enter Tryz.func29, Tryz.ntmps29
  go_wp2_with fail
  refine HA.out.mono ?_
  rintro e w' ⟨⟨b, rfl⟩, hc⟩
  have HC := Lib.hid hc
  clear hc
  go_wp2
  refine body_end Tryz.results29 rfl ?_
  exact ⟨⟨_, rfl⟩, HC.out⟩

def pw (x : Wr) : Nat := 1 + x.key.length + x.val.length
def pws (l : List Wr) : Nat := (l.map pw).sum
def WrBig (l : List Wr) : Prop := l.length ≤ 140737488355328 ∧ ∀ x ∈ l, x.key.length ≤ 140737488355328 ∧ x.val.length ≤ 140737488355328
theorem pws_snoc {l : List Wr} {j : Nat} {x : Wr} (h : l[j]? = some x) : pws (l.take (j + 1)) = pws (l.take j) + (1 + x.key.length) + x.val.length := by
  unfold pws
  rw [take_snoc l j x h, List.map_append, List.sum_append]
  simp [pw]
  omega

set_option maxRecDepth 100000 in
set_option maxHeartbeats 4000000 in
theorem cwrites_walk (w0 w : World) (p : Nat) (k : Int) (v : Value) (l : List Wr) (h : Cnt w p k) (hm : Mod [] w0 w) (hp : w0.heap.size ≤ p) (hs : SeenWrs w0 v l) (hl : WrBig l) :
    Calls Tryz.prog 142 #[.pointer (some ⟨p, 0, none⟩), v] w (VoidPost w0 p k (pws l)) := by
  have HS := Lib.hid (And.intro hs (And.intro hl hp))
  obtain ⟨A, c, rfl, _⟩ := hs
  obtain ⟨n, hnn⟩ : ∃ n, n = l.length := ⟨_, rfl⟩
  have hn7 : n ≤ 140737488355328 := by rw [hnn]; exact hl.1
  rw [← hnn]
  have HN := Lib.hid hnn
  have H0 := Lib.hid (And.intro h hm)
  clear hnn hl h hm hp
  go_enter Tryz.func142, Tryz.ntmps142
  go_wp2
  go_loopw [4] (fun s4 wr => ∃ (j : Nat) (k1 : Int), s4 = .int .i64 j ∧ j ≤ n ∧ Cnt wr p k1 ∧ Fell k k1 (pws (l.take j)) ∧ Mod [] w0 wr) (fun s4 _ => n - (RowKit.intOf s4).toNat)
  case atStart => exact ⟨0, k, by go_num, Nat.zero_le _, H0.out.1, Fell.zero k, H0.out.2⟩
  case round =>
    obtain ⟨j, k1, rfl, hj, hc, hf, hw⟩ := hrel
    have H := Lib.hid (And.intro hc (And.intro hf hw))
    clear hc hf hw
    by_cases hjl : j < n
    · obtain ⟨x, hx⟩ : ∃ x, l[j]? = some x := ⟨_, List.getElem?_eq_getElem (by rw [← HN.out]; exact hjl)⟩
      obtain ⟨b1, o1, c1, e1, r1, r2, r3⟩ := HS.out.1.at_ hx
      obtain rfl : A = some ⟨b1, o1, none⟩ := by injection e1
      have hxb := HS.out.2.1.2 x (List.mem_of_getElem? hx)
      have HX := Lib.hid (And.intro (pws_snoc hx) (And.intro hxb (And.intro r1 r3)))
      have hcx1 := H.out.2.2.cell r1 (by simp)
      have hjn : (j : Int) < (n : Int) := by omega
      clear e1 r1 r2 r3 hx hxb
      go_wp2_with fail
      refine (ok_walk _ p k1 H.out.1).mono ?_
      rintro e w2 ⟨rfl, rfl⟩
      by_cases hk1 : 0 ≤ k1
      · have hkd : decide (0 ≤ k1) = true := decide_eq_true hk1
        go_wp2_with fail
        refine (text_walk w0 _ p k1 x.key H.out.1 H.out.2.2 HS.out.2.2 HX.out.2.1.1).mono ?_
        rintro e w3 ⟨⟨v3, rfl⟩, k3, hc3, hf3, hm3⟩
        have hcx3 := hm3.cell HX.out.2.2.2 (by simp)
        have hcx4 := hcx3
        rw [← Nat.add_assoc] at hcx4
        have H3 := Lib.hid (And.intro hc3 (And.intro hf3 hm3))
        clear hc3 hf3 hm3 hcx1
        have HAD := Lib.hid (show Calls Tryz.prog 90 #[.pointer (some ⟨p, 0, none⟩), .int .i64 ((⟨x.val.toArray⟩ : ByteArray).size : Int)] w3 (AddPost w0 p k3 x.val.length) by
          have := add_walk w0 w3 p k3 x.val.length H3.out.1 H3.out.2.2 HS.out.2.2 (by have := HX.out.2.1.2; omega)
          exact this)
        go_wp2_with fail
        refine HAD.out.mono ?_
        rintro e w4 ⟨⟨b4, rfl⟩, k4, hc4, hf4, hm4⟩
        have H4 := Lib.hid (And.intro hc4 (And.intro ((H.out.2.1.trans H3.out.2.1).trans hf4) hm4))
        clear hc4 hf4 hm4
        go_wp2
        go_roundw
        case rel => exact ⟨j + 1, k4, by go_num, by omega, H4.out.1, by rw [HX.out.1]; exact H4.out.2.1, H4.out.2.2⟩
        case measure => simp [RowKit.intOf]; omega
      · have hkd : decide (0 ≤ k1) = false := decide_eq_false hk1
        have HF := Lib.hid (show CntPost w0 p k (pws l) _ from ⟨k1, H.out.1, H.out.2.1.stop (by omega), H.out.2.2⟩)
        go_wp2
        refine body_end Tryz.results142 rfl ?_
        exact ⟨⟨_, rfl⟩, HF.out⟩
    · have hall : l.take j = l := List.take_of_length_le (by rw [← HN.out]; omega)
      have HF := Lib.hid (show CntPost w0 p k (pws l) wr from ⟨k1, H.out.1, by have := H.out.2.1; rwa [hall] at this, H.out.2.2⟩)
      clear hall
      go_wp2
      refine body_end Tryz.results142 rfl ?_
      exact ⟨⟨_, rfl⟩, HF.out⟩

def ps (s : StepS) : Nat := 1 + s.keep.length + (s.op.key.length + s.op.til.length) + pws s.op.writes
def StBig (s : StepS) : Prop := s.keep.length ≤ 140737488355328 ∧ s.op.key.length ≤ 140737488355328 ∧ s.op.til.length ≤ 140737488355328 ∧ WrBig s.op.writes
def pss (rs : List RStep) : Nat := (rs.map fun x => ps x.1).sum
theorem pss_snoc {l : List RStep} {j : Nat} {x : RStep} (h : l[j]? = some x) : pss (l.take (j + 1)) = pss (l.take j) + (1 + x.1.keep.length) + (x.1.op.key.length + x.1.op.til.length) + pws x.1.op.writes := by
  unfold pss
  rw [take_snoc l j x h, List.map_append, List.sum_append]
  simp [ps]
  omega

set_option maxRecDepth 100000 in
set_option maxHeartbeats 4000000 in
theorem csteps_walk (w0 w : World) (p : Nat) (k : Int) (v : Value) (rs : List RStep) (h : Cnt w p k) (hm : Mod [] w0 w) (hp : w0.heap.size ≤ p) (hs : Seen w0 v rs) (hn : rs.length ≤ 140737488355328) (hl : ∀ x ∈ rs, StBig x.1) :
    Calls Tryz.prog 64 #[.pointer (some ⟨p, 0, none⟩), v] w (VoidPost w0 p k (pss rs)) := by
  have HS := Lib.hid (And.intro hs (And.intro hl hp))
  obtain ⟨A, c, rfl, _⟩ := hs.1
  obtain ⟨n, hnn⟩ : ∃ n, n = rs.length := ⟨_, rfl⟩
  rw [← hnn] at hn ⊢
  have HN := Lib.hid hnn
  have H0 := Lib.hid (And.intro h hm)
  clear hnn hl h hm hp hs
  go_enter Tryz.func64, Tryz.ntmps64
  go_wp2
  go_loopw [4] (fun s4 wr => ∃ (j : Nat) (k1 : Int), s4 = .int .i64 j ∧ j ≤ n ∧ Cnt wr p k1 ∧ Fell k k1 (pss (rs.take j)) ∧ Mod [] w0 wr) (fun s4 _ => n - (RowKit.intOf s4).toNat)
  case atStart => exact ⟨0, k, by go_num, Nat.zero_le _, H0.out.1, Fell.zero k, H0.out.2⟩
  case round =>
    obtain ⟨j, k1, rfl, hj, hc, hf, hw⟩ := hrel
    have H := Lib.hid (And.intro hc (And.intro hf hw))
    clear hc hf hw
    by_cases hjl : j < n
    · obtain ⟨x, hx⟩ : ∃ x, rs[j]? = some x := ⟨_, List.getElem?_eq_getElem (by rw [← HN.out]; exact hjl)⟩
      obtain ⟨b1, o1, c1, e1, r1⟩ := HS.out.1.at_ hx
      have q1 := HS.out.1.2 _ (List.mem_of_getElem? hx)
      have hxb := HS.out.2.1 x (List.mem_of_getElem? hx)
      have hps := pss_snoc hx
      obtain ⟨s, wv, kv⟩ := x
      have hr5 := r1 5 wv rfl
      have hr7 := r1 7 (.string ⟨s.op.key.toArray⟩) rfl
      have hr8 := r1 8 (.string ⟨s.op.til.toArray⟩) rfl
      have hr11 := r1 11 kv rfl
      have HX := Lib.hid (And.intro hps (And.intro hxb (And.intro q1 (And.intro hr5 (And.intro hr7 (And.intro hr8 hr11))))))
      obtain ⟨Ak, ck, ek, _⟩ := id q1.2
      obtain rfl : A = some ⟨b1, o1, none⟩ := by injection e1
      have hcx := H.out.2.2.cell hr11 (by simp)
      have hjn : (j : Int) < (n : Int) := by omega
      simp only at ek
      subst ek
      clear e1 r1 q1 hxb hps hx hr5 hr7 hr8 hr11
      have hcx2 := hcx
      rw [← Nat.add_assoc] at hcx2
      obtain ⟨nk, hnk⟩ : ∃ nk, nk = s.keep.length := ⟨_, rfl⟩
      rw [← hnk] at hcx hcx2
      have hnk7 : nk ≤ 140737488355328 := by rw [hnk]; exact HX.out.2.1.1
      have HNK := Lib.hid hnk
      clear hnk
      go_wp2_with fail
      refine (ok_walk _ p k1 H.out.1).mono ?_
      rintro e w2 ⟨rfl, rfl⟩
      by_cases hk1 : 0 ≤ k1
      · have hkd : decide (0 ≤ k1) = true := decide_eq_true hk1
        have HAD := Lib.hid (show Calls Tryz.prog 90 #[.pointer (some ⟨p, 0, none⟩), .int .i64 (1 + (nk : Int))] _ (AddPost w0 p k1 (1 + nk)) from by
          have := add_walk w0 _ p k1 (1 + nk) H.out.1 H.out.2.2 HS.out.2.2 (by omega)
          rwa [show (((1 + nk : Nat)) : Int) = 1 + (nk : Int) by omega] at this)
        go_wp2_with fail
        refine HAD.out.mono ?_
        rintro e w3 ⟨⟨b3, rfl⟩, k3, hc3, hf3, hm3⟩
        have H3 := Lib.hid (And.intro hc3 (And.intro hf3 hm3))
        clear hc3 hf3 hm3 hcx hcx2
        obtain ⟨kl, hkl⟩ : ∃ kl, kl = s.op.key.length := ⟨_, rfl⟩
        obtain ⟨tl, htl⟩ : ∃ tl, tl = s.op.til.length := ⟨_, rfl⟩
        have hkl7 : kl ≤ 140737488355328 := by rw [hkl]; exact HX.out.2.1.2.1
        have htl7 : tl ≤ 140737488355328 := by rw [htl]; exact HX.out.2.1.2.2.1
        have HKL := Lib.hid (And.intro hkl htl)
        clear hkl htl
        go_wp2
        refine region_C (fun X => Mod [] w0 X) (by kernel_rfl) (fun _ _ _ _ _ h => h) (fun hQp => ?_)
        have HC := H3.out.2.2.drew
        simp only [List.length_cons, List.length_nil]
        refine anyC_take (i := 0) (v := ?_) (a' := ?_) HC rfl rfl (by kernel_rfl) (by kernel_rfl) (by kernel_rfl) hQp (by rfl) ?_ ?_ ?_
        rotate_left 2
        · intro X hX
          go_simp
          first | rfl | (rw [if_neg (by omega)])
        · simp [Act.put]
          rfl
        refine anyC_take (i := 1) (v := ?_) (a' := ?_) HC rfl rfl (by kernel_rfl) (by kernel_rfl) (by kernel_rfl) hQp (by rfl) ?_ ?_ ?_
        rotate_left 2
        · intro X hX
          go_simp
          first | rfl | (rw [if_neg (by omega)])
        · simp [Act.put]
          rfl
        refine anyC_take (i := 2) (v := ?_) (a' := ?_) HC rfl rfl (by kernel_rfl) (by kernel_rfl) (by kernel_rfl) hQp (by rfl) ?_ ?_ ?_
        rotate_left 2
        · intro X hX
          go_simp
          first | rfl | (rw [if_neg (by omega)])
        · simp [Act.put]
          rfl
        refine anyC_take (i := 3) (v := ?_) (a' := ?_) HC rfl rfl (by kernel_rfl) (by kernel_rfl) (by kernel_rfl) hQp (by rfl) ?_ ?_ ?_
        rotate_left 2
        · intro X hX
          go_simp
          first | rfl | (rw [if_neg (by omega)])
        · simp [Act.put]
          rfl
        refine anyC_take (i := 4) (v := ?_) (a' := ?_) HC rfl rfl (by kernel_rfl) (by kernel_rfl) (by kernel_rfl) hQp (by rfl) ?_ ?_ ?_
        rotate_left 2
        · intro X hX
          go_simp
          first | rfl | (rw [if_neg (by omega)])
        · simp [Act.put]
          rfl
        refine anyC_take (i := 5) (v := ?_) (a' := ?_) HC rfl rfl (by kernel_rfl) (by kernel_rfl) (by kernel_rfl) hQp (by rfl) ?_ ?_ ?_
        rotate_left 2
        · intro X hX
          go_simp
          first | rfl | (rw [if_neg (by omega)])
        · simp [Act.put]
          rfl
        refine anyC_take (i := 6) (v := ?_) (a' := ?_) HC rfl rfl (by kernel_rfl) (by kernel_rfl) (by kernel_rfl) hQp (by rfl) ?_ ?_ ?_
        rotate_left 2
        · intro X hX
          have hx := hX.cell HX.out.2.2.2.2.1 (by simp)
          have hx2 := hx
          rw [← Nat.add_assoc] at hx2
          have hx3 := hX.cell HX.out.2.2.2.2.1 (by simp)
          rw [show o1 + (j * 12 + 7) = o1 + j * 12 + 4 + 3 from by omega] at hx3
          go_simp
          first | rfl | (rw [if_neg (by omega)])
        · simp [Act.put]
          rfl
        refine anyC_take (i := 7) (v := .int .i64 (kl : Int)) (a' := ?_) HC rfl rfl (by kernel_rfl) (by kernel_rfl) (by kernel_rfl) hQp (by rfl) ?_ ?_ ?_
        rotate_left 1
        · intro X hX
          go_simp
          rw [HKL.out.1]
        · simp [Act.put]
          rfl
        refine anyC_take (i := 8) (v := ?_) (a' := ?_) HC rfl rfl (by kernel_rfl) (by kernel_rfl) (by kernel_rfl) hQp (by rfl) ?_ ?_ ?_
        rotate_left 2
        · intro X hX
          go_simp
          first | rfl | (rw [if_neg (by omega)])
        · simp [Act.put]
          rfl
        refine anyC_take (i := 9) (v := ?_) (a' := ?_) HC rfl rfl (by kernel_rfl) (by kernel_rfl) (by kernel_rfl) hQp (by rfl) ?_ ?_ ?_
        rotate_left 2
        · intro X hX
          go_simp
          first | rfl | (rw [if_neg (by omega)])
        · simp [Act.put]
          rfl
        refine anyC_take (i := 10) (v := ?_) (a' := ?_) HC rfl rfl (by kernel_rfl) (by kernel_rfl) (by kernel_rfl) hQp (by rfl) ?_ ?_ ?_
        rotate_left 2
        · intro X hX
          go_simp
          first | rfl | (rw [if_neg (by omega)])
        · simp [Act.put]
          rfl
        refine anyC_take (i := 11) (v := ?_) (a' := ?_) HC rfl rfl (by kernel_rfl) (by kernel_rfl) (by kernel_rfl) hQp (by rfl) ?_ ?_ ?_
        rotate_left 2
        · intro X hX
          go_simp
          first | rfl | (rw [if_neg (by omega)])
        · simp [Act.put]
          rfl
        refine anyC_take (i := 12) (v := ?_) (a' := ?_) HC rfl rfl (by kernel_rfl) (by kernel_rfl) (by kernel_rfl) hQp (by rfl) ?_ ?_ ?_
        rotate_left 2
        · intro X hX
          go_simp
          first | rfl | (rw [if_neg (by omega)])
        · simp [Act.put]
          rfl
        refine anyC_take (i := 13) (v := ?_) (a' := ?_) HC rfl rfl (by kernel_rfl) (by kernel_rfl) (by kernel_rfl) hQp (by rfl) ?_ ?_ ?_
        rotate_left 2
        · intro X hX
          have hx := hX.cell HX.out.2.2.2.2.2.1 (by simp)
          have hx2 := hx
          rw [← Nat.add_assoc] at hx2
          have hx3 := hX.cell HX.out.2.2.2.2.2.1 (by simp)
          rw [show o1 + (j * 12 + 8) = o1 + j * 12 + 4 + 4 from by omega] at hx3
          go_simp
          first | rfl | (rw [if_neg (by omega)])
        · simp [Act.put]
          rfl
        refine anyC_take (i := 14) (v := .int .i64 (tl : Int)) (a' := ?_) HC rfl rfl (by kernel_rfl) (by kernel_rfl) (by kernel_rfl) hQp (by rfl) ?_ ?_ ?_
        rotate_left 1
        · intro X hX
          go_simp
          rw [HKL.out.2]
        · simp [Act.put]
          rfl
        refine anyC_take (i := 15) (v := .int .i64 ((kl : Int) + tl)) (a' := ?_) HC rfl rfl (by kernel_rfl) (by kernel_rfl) (by kernel_rfl) hQp (by rfl) ?_ ?_ ?_
        rotate_left 1
        · intro X hX
          go_simp
          rw [wrap_i64 (by omega) (by omega)]
        · simp [Act.put]
          rfl
        have HAD2 := Lib.hid (show Calls Tryz.prog 90 #[.pointer (some ⟨p, 0, none⟩), .int .i64 ((kl : Int) + (tl : Int))] w3.drew (AddPost w0 p k3 (kl + tl)) from by
          have := add_walk w0 w3.drew p k3 (kl + tl) H3.out.1.drew HC HS.out.2.2 (by omega)
          rwa [show (((kl + tl : Nat)) : Int) = (kl : Int) + (tl : Int) by omega] at this)
        refine anyC_step (i := 16) (by kernel_rfl) rfl (by rfl) ?_
        unfold Oper.wp
        go_simp
        refine HAD2.out.mono ?_
        rintro e w4 ⟨⟨b4, rfl⟩, k4, hc4, hf4, hm4⟩
        refine ⟨hm4, ?_⟩
        refine anyC_done (by kernel_rfl) ?_ _
        clear hQp HC
        have hw5 := hm4.cell HX.out.2.2.2.1 (by simp)
        have hw6 := hw5
        rw [← Nat.add_assoc] at hw6
        have hw7 := hw5
        rw [show o1 + (j * 12 + 5) = o1 + j * 12 + 4 + 1 from by omega] at hw7
        have H4 := Lib.hid (And.intro hc4 (And.intro ((H.out.2.1.trans H3.out.2.1).trans hf4) hm4))
        clear hc4 hf4 hm4
        go_wp2_with fail
        refine (cwrites_walk w0 w4 p k4 wv s.op.writes H4.out.1 H4.out.2.2 HS.out.2.2 HX.out.2.2.1.1 HX.out.2.1.2.2.2).mono ?_
        rintro e w5 ⟨⟨v5, rfl⟩, k5, hc5, hf5, hm5⟩
        have H5 := Lib.hid (And.intro hc5 (And.intro (H4.out.2.1.trans hf5) hm5))
        clear hc5 hf5 hm5 hw5 hw6 hw7
        go_wp2
        go_roundw
        case rel => exact ⟨j + 1, k5, by go_num, by omega, H5.out.1, by rw [HX.out.1]; show Fell k k5 (pss (rs.take j) + (1 + s.keep.length) + (s.op.key.length + s.op.til.length) + pws s.op.writes); rw [← HKL.out.1, ← HKL.out.2, ← HNK.out]; exact H5.out.2.1, H5.out.2.2⟩
        case measure => simp [RowKit.intOf]; omega
      · have hkd : decide (0 ≤ k1) = false := decide_eq_false hk1
        have HF := Lib.hid (show CntPost w0 p k (pss rs) _ from ⟨k1, H.out.1, H.out.2.1.stop (by omega), H.out.2.2⟩)
        go_wp2
        refine body_end Tryz.results64 rfl ?_
        exact ⟨⟨_, rfl⟩, HF.out⟩
    · have hall : rs.take j = rs := List.take_of_length_le (by rw [← HN.out]; omega)
      have HF := Lib.hid (show CntPost w0 p k (pss rs) _ from ⟨k1, H.out.1, by have := H.out.2.1; rwa [hall] at this, H.out.2.2⟩)
      clear hall
      go_wp2
      refine body_end Tryz.results64 rfl ?_
      exact ⟨⟨_, rfl⟩, HF.out⟩

theorem sum_mem {α : Type} (f : α → Nat) : ∀ {l : List α} {x : α}, x ∈ l → f x ≤ (l.map f).sum
  | y :: l, x, h => by
    rw [List.map_cons, List.sum_cons]
    rcases List.mem_cons.1 h with rfl | h
    · omega
    · have := sum_mem f h; omega
theorem len_sum {α : Type} (f : α → Nat) (hf : ∀ x, 1 ≤ f x) : ∀ l : List α, l.length ≤ (l.map f).sum
  | [] => by simp
  | x :: l => by
    rw [List.map_cons, List.sum_cons, List.length_cons]
    have := len_sum f hf l
    have := hf x
    omega
theorem pss_lim {rs : List RStep} (h : pss rs ≤ 65536) : rs.length ≤ 65536 ∧ ∀ x ∈ rs, Lim 70000 x.1 := by
  have h1 := len_sum (fun x : RStep => ps x.1) (fun x => by unfold ps; omega) rs
  refine ⟨Nat.le_trans h1 h, fun x hx => ?_⟩
  have h2 := sum_mem (fun x : RStep => ps x.1) hx
  have h3 : ps x.1 ≤ 65536 := Nat.le_trans h2 h
  unfold ps at h3
  have h4 := len_sum pw (fun x => by unfold pw; omega) x.1.op.writes
  unfold pws at h3
  refine ⟨by omega, by omega, by omega, by omega, fun y hy => ?_⟩
  have h5 := sum_mem pw hy
  have h6 : pw y = 1 + y.key.length + y.val.length := rfl
  omega

def SmallPost (w : World) (rs : List RStep) (e : Ending) (w' : World) : Prop := ∃ b : Bool, e = .returned (.bool b) ∧ (b = true → pss rs ≤ 65536) ∧ Mod [] w w'
set_option maxRecDepth 100000 in
set_option maxHeartbeats 4000000 in
theorem small_walk (w : World) (v : Value) (rs : List RStep) (hs : Seen w v rs) (hn : rs.length ≤ 140737488355328) (hl : ∀ x ∈ rs, StBig x.1) :
    Calls Tryz.prog 17 #[v] w (SmallPost w rs) := by
  have HS := Lib.hid (And.intro hs (And.intro hn hl))
  clear hs hn hl
  have HM := Lib.hid (show ∀ X : World, Calls Tryz.prog 27 #[.int .i64 65536] X fun e w' => e = .returned (.pointer (some ⟨X.heap.size, 0, none⟩)) ∧ w' = X.alloc (.cells #[.int .i64 65536] 138) from fun X => by
    go_enter Tryz.func27, Tryz.ntmps27
    go_wp2
    go_ret
    exact ⟨rfl, rfl⟩)
  go_enter Tryz.func17, Tryz.ntmps17
  go_wp2_with fail
  refine (HM.out _).mono ?_
  rintro e w1 ⟨rfl, rfl⟩
  go_wp2_with fail
  refine (csteps_walk w _ w.heap.size 65536 v rs ⟨Blk.new _ _ _, by omega, by omega⟩ ((Mod.refl _ _).alloc _) (Nat.le_refl _) HS.out.1 HS.out.2.1 HS.out.2.2).mono ?_
  rintro e w2 ⟨⟨v2, rfl⟩, k2, hc2, hf2, hm2⟩
  have H2 := Lib.hid (And.intro hc2 (And.intro hf2 hm2))
  clear hc2 hf2 hm2
  go_wp2_with fail
  refine (ok_walk w2 w.heap.size k2 H2.out.1).mono ?_
  rintro e w3 ⟨rfl, rfl⟩
  have HF := Lib.hid (show ∀ b : Bool, b = decide (0 ≤ k2) → (b = true → pss rs ≤ 65536) from fun b hb h => by
    rw [hb] at h
    have h0 := of_decide_eq_true h
    have := H2.out.2.1.2 h0
    omega)
  go_wp2
  go_ret
  exact ⟨_, rfl, HF.out _ rfl, H2.out.2.2⟩

open Go.ChangeShapes Go.WideShapes Go.ChangeAt Go.RowKit Scr

theorem pick_list {α : Type} (Q : Nat → α → Prop) : ∀ n : Nat, (∀ i, i < n → ∃ x, Q i x) → ∃ l : List α, l.length = n ∧ ∀ i x, l[i]? = some x → Q i x
  | 0, _ => ⟨[], rfl, fun i x h => by simp at h⟩
  | n + 1, h => by
    obtain ⟨l, hl, hq⟩ := pick_list Q n (fun i hi => h i (by omega))
    obtain ⟨x, hx⟩ := h n (by omega)
    refine ⟨l ++ [x], by simp [hl], fun i y hy => ?_⟩
    by_cases hi : i < n
    · rw [List.getElem?_append_left (by omega)] at hy
      exact hq i y hy
    · rw [List.getElem?_append_right (by omega)] at hy
      have h0 : i - l.length = 0 := by
        rcases Nat.eq_zero_or_pos (i - l.length) with h0 | h0
        · exact h0
        · rw [List.getElem?_eq_none (by simp; omega)] at hy; cases hy
      rw [h0] at hy
      simp at hy
      subst hy
      have : i = n := by omega
      subst this
      exact hx
theorem flat_get {α β : Type} {k : Nat} (f : α → List β) (hf : ∀ x, (f x).length = k) : ∀ (l : List α) (i j : Nat) (x : α), l[i]? = some x → j < k → (l.flatMap f)[i * k + j]? = (f x)[j]?
  | [], i, j, x, h, _ => by simp at h
  | y :: t, 0, j, x, h, hj => by
    simp at h; subst h
    rw [List.flatMap_cons, Nat.zero_mul, Nat.zero_add, List.getElem?_append_left (by rw [hf]; exact hj)]
  | y :: t, i + 1, j, x, h, hj => by
    rw [List.flatMap_cons, List.getElem?_append_right (by rw [hf, Nat.add_mul]; omega), hf, show (i + 1) * k + j - k = i * k + j from by rw [Nat.add_mul]; omega]
    exact flat_get f hf t i j x (by simpa using h) hj
theorem flat_len {α β : Type} {k : Nat} (f : α → List β) (hf : ∀ x, (f x).length = k) : ∀ l : List α, (l.flatMap f).length = l.length * k
  | [] => by simp
  | x :: t => by rw [List.flatMap_cons, List.length_append, hf, flat_len f hf t, List.length_cons, Nat.add_mul]; omega
theorem weights_mem {H : Type} {P : Program} {e : TypeId} : ∀ {l : List (DataW H)} {d : DataW H} {n : Nat}, d ∈ l → n ∈ d.weights P e → n ∈ DataW.weightsAll P e l
  | x :: t, d, n, hd, hn => by
    rw [DataW.weightsAll]
    rcases List.mem_cons.1 hd with rfl | hd
    · exact List.mem_append_left _ hn
    · exact List.mem_append_right _ (weights_mem hd hn)
theorem spot_none {w : World} {a : Addr} {v : Value} (h : w.cell? a = some v) : a.spot = none := by
  unfold World.cell? at h
  rcases hs : a.spot with _ | y
  · rfl
  · rw [hs] at h; split at h <;> simp at h
def Few {H : Type} (P : Program) (t : TypeId) (d : DataW H) : Prop := ∀ n ∈ d.weights P t, n ≤ reachBytes
/-- A list of rows of k cells each. -/
theorem open_rows {H : Type} {enc : TypeId × Value → H} {W : World} {α : Type} {t e : TypeId} {k : Nat} (ht : Tryz.prog.underlying t = some (.slice e)) (hk : Tryz.prog.cellsOf e = k) (hk0 : 0 < k) (encA : α → List Value) (hlen : ∀ x, (encA x).length = k) (R : α → Prop)
    (one : ∀ n cs (y : DataW H × List MemPlace), DataW.trod enc Tryz.prog W 0 (fun _ => true) true n e cs = some y → Few Tryz.prog e y.1 → ∃ x, cs = encA x ∧ R x)
    {n : Nat} {v : Value} {y : DataW H × List MemPlace} (h : DataW.trod enc Tryz.prog W 0 (fun _ => true) true n t [v] = some y) (hz : Few Tryz.prog t y.1) :
    ∃ l : List α, SeenRow W v l.length (l.flatMap encA) ∧ (∀ x ∈ l, R x) ∧ l.length * Tryz.prog.bytesOf e ≤ reachBytes := by
  rcases DataW.trod_slice ht h with ⟨hcs, hy⟩ | ⟨a, len, cap, elems, rest, m, _, hcs, hy, hb, hl, hm, hel, hcell, _, _⟩
  · simp at hcs
    subst hcs
    exact ⟨[], ⟨none, 0, rfl, fun j u hu => by simp at hu⟩, fun x hx => by (cases hx), by simp⟩
  · simp at hcs
    subst hcs
    subst hy
    have hz0 : Few Tryz.prog t (DataW.slice (elems.map (·.1)) (rest.map (·.1))) := hz
    have hzw : ∀ q ∈ ((elems.map (·.1)).length + (rest.map (·.1)).length) * Tryz.prog.bytesOf e :: (DataW.weightsAll Tryz.prog e (elems.map (·.1)) ++ DataW.weightsAll Tryz.prog e (rest.map (·.1))), q ≤ reachBytes := by
      have h0 := hz0
      unfold Few DataW.weights at h0
      rw [ht] at h0
      exact h0
    obtain ⟨l, hll, hq⟩ := pick_list (fun i (x : α) => R x ∧ W.cells? 0 (a.add (i * k)) k = some (encA x)) len (fun i hi => by
      have h0 := hcell i hi
      have hi2 : i < elems.length := by omega
      rw [List.getElem?_eq_getElem hi2, hk, Option.bind_eq_some_iff] at h0
      obtain ⟨cs, hc1, hc2⟩ := h0
      obtain ⟨x, rfl, hR⟩ := one _ _ _ hc2 (fun q hqm => hzw q (List.mem_cons_of_mem _ (List.mem_append_left _ (weights_mem (List.mem_map_of_mem (List.getElem_mem hi2)) hqm))))
      exact ⟨x, hR, hc1⟩)
    refine ⟨l, ⟨some a, cap, by rw [hll], fun j u hu => ?_⟩, fun x hx => ?_, ?_⟩
    · have hj : j < l.length * k := by
        have := (List.getElem?_eq_some_iff.1 hu).1
        rwa [flat_len encA hlen] at this
      have hi : j / k < l.length := by rw [Nat.div_lt_iff_lt_mul hk0]; exact hj
      have hr : j % k < k := Nat.mod_lt _ hk0
      have hjd : j / k * k + j % k = j := by rw [Nat.mul_comm]; exact Nat.div_add_mod j k
      obtain ⟨x, hx⟩ : ∃ x, l[j / k]? = some x := ⟨_, List.getElem?_eq_getElem hi⟩
      have hux : (encA x)[j % k]? = some u := by rw [← flat_get encA hlen l (j / k) (j % k) x hx hr, hjd]; exact hu
      have hcx := (World.cells?_some (hq _ _ hx).2).2.2 (j % k) hr
      rw [hux] at hcx
      have hl0 : 0 < l.length := Nat.lt_of_le_of_lt (Nat.zero_le _) hi
      obtain ⟨x0, hx0⟩ : ∃ x0, l[0]? = some x0 := ⟨_, List.getElem?_eq_getElem hl0⟩
      have hc0 := (World.cells?_some (hq _ _ hx0).2).2.2 0 hk0
      rw [Nat.zero_mul, List.getElem?_eq_getElem (by rw [hlen]; exact hk0)] at hc0
      have hs : a.spot = none := spot_none hc0
      obtain ⟨b, o, sp⟩ := a
      simp only at hs
      subst hs
      refine ⟨b, o, rfl, ?_⟩
      have e : o + (j / k * k) + j % k = o + j := by rw [Nat.add_assoc, hjd]
      rw [add_plain, add_plain, e] at hcx
      exact hcx
    · obtain ⟨i, hi⟩ := List.getElem?_of_mem hx
      exact (hq i x hi).1
    · have h0 := hzw _ (List.mem_cons_self ..)
      rw [List.length_map, List.length_map] at h0
      rw [hll, ← hel]
      exact Nat.le_trans (Nat.mul_le_mul_right _ (Nat.le_add_right _ _)) h0

theorem c_str : Tryz.prog.cellsOf 9 = 1 := by kernel_rfl
theorem c_bool : Tryz.prog.cellsOf 4 = 1 := by kernel_rfl
theorem c_int : Tryz.prog.cellsOf 3 = 1 := by kernel_rfl
theorem c_wr : Tryz.prog.cellsOf 71 = 3 := by kernel_rfl
theorem c_op : Tryz.prog.cellsOf 67 = 7 := by kernel_rfl
theorem c_step : Tryz.prog.cellsOf 69 = 12 := by kernel_rfl
theorem c_wrs : Tryz.prog.cellsOf 65 = 1 := by kernel_rfl
theorem c_ints : Tryz.prog.cellsOf 36 = 1 := by kernel_rfl
theorem b_wr : 1 ≤ Tryz.prog.bytesOf 71 := of_decide_eq_true (by kernel_rfl)
theorem b_int : 1 ≤ Tryz.prog.bytesOf 3 := of_decide_eq_true (by kernel_rfl)
theorem b_step : 1 ≤ Tryz.prog.bytesOf 69 := of_decide_eq_true (by kernel_rfl)
theorem str_back (s : ByteArray) : (⟨s.data.toList.toArray⟩ : ByteArray) = s := by cases s; rfl
theorem reach_is : reachBytes ≤ 140737488355328 := by unfold reachBytes; decide
theorem few_len {l b : Nat} (hb : 1 ≤ b) (h : l * b ≤ reachBytes) : l ≤ 140737488355328 := by
  have := Nat.le_mul_of_pos_right l hb
  have := reach_is; omega
section
variable {H : Type} {enc : TypeId × Value → H} {W : World}
set_option maxRecDepth 100000 in
theorem one_write : ∀ n cs (y : DataW H × List MemPlace), DataW.trod enc Tryz.prog W 0 (fun _ => true) true n 71 cs = some y → Few Tryz.prog 71 y.1 → ∃ x : Wr, cs = encWr x ∧ (x.key.length ≤ 140737488355328 ∧ x.val.length ≤ 140737488355328) := by
  intro n cs y h hz
  obtain ⟨xs, m, _, rfl, hl, hxl, hf⟩ := DataW.trod_struct Tryz.underlying71 h
  rw [c_wr] at hl
  obtain ⟨c0, c1, c2, rfl⟩ : ∃ c0 c1 c2, cs = [c0, c1, c2] := by
    match cs, hl with
    | [a, b, c], _ => exact ⟨_, _, _, rfl⟩
  obtain ⟨y0, y1, y2, rfl⟩ : ∃ y0 y1 y2, xs = [y0, y1, y2] := by
    match xs, hxl with
    | [a, b, c], _ => exact ⟨_, _, _, rfl⟩
  have h0 := hf 0 _ rfl
  have h1 := hf 1 _ rfl
  have h2 := hf 2 _ rfl
  simp [c_str, c_bool] at h0 h1 h2
  obtain ⟨s0, e0, rfl, _⟩ := DataW.trod_string Tryz.underlying9 h0
  obtain ⟨b1, e1, rfl⟩ := DataW.trod_bool Tryz.underlying4 h1
  obtain ⟨s2, e2, rfl, _⟩ := DataW.trod_string Tryz.underlying9 h2
  simp at e0 e1 e2
  subst e0 e1 e2
  have z0 := hz s0.data.toList.length (by simp [DataW.weights, DataW.weightsEach, Tryz.underlying71])
  have z2 := hz s2.data.toList.length (by simp [DataW.weights, DataW.weightsEach, Tryz.underlying71])
  replace z0 := Nat.le_trans z0 reach_is
  replace z2 := Nat.le_trans z2 reach_is
  exact ⟨⟨s0.data.toList, b1, s2.data.toList⟩, by unfold encWr; simp only [str_back], z0, z2⟩
theorem wf_i64 {n : Int} (h : (Lit.int .i64 n).wf = true) : I64 n := by
  unfold I64
  simp [Lit.wf, IntKind.min, IntKind.max, IntKind.bits, IntKind.signed] at h
  omega
theorem one_int : ∀ n cs (y : DataW H × List MemPlace), DataW.trod enc Tryz.prog W 0 (fun _ => true) true n 3 cs = some y → Few Tryz.prog 3 y.1 → ∃ x : Int, cs = [Value.int .i64 x] ∧ I64 x := by
  intro n cs y h _
  obtain ⟨x, rfl, _, hw⟩ := DataW.trod_int Tryz.underlying3 h
  exact ⟨x, rfl, wf_i64 hw⟩
theorem flat_one : ∀ l : List Int, (l.flatMap fun x => [Value.int .i64 x]) = l.map (Value.int .i64)
  | [] => rfl
  | x :: t => by rw [List.flatMap_cons, flat_one t]; rfl
theorem open_wrs {n : Nat} {v : Value} {y : DataW H × List MemPlace} (h : DataW.trod enc Tryz.prog W 0 (fun _ => true) true n 65 [v] = some y) (hz : Few Tryz.prog 65 y.1) : ∃ l, SeenWrs W v l ∧ WrBig l := by
  obtain ⟨l, h1, h2, h3⟩ := open_rows Tryz.underlying65 c_wr (by decide) encWr (fun x => rfl) (fun x => x.key.length ≤ 140737488355328 ∧ x.val.length ≤ 140737488355328) one_write h hz
  exact ⟨l, h1, few_len b_wr h3, h2⟩
theorem open_nums {n : Nat} {v : Value} {y : DataW H × List MemPlace} (h : DataW.trod enc Tryz.prog W 0 (fun _ => true) true n 36 [v] = some y) (hz : Few Tryz.prog 36 y.1) : ∃ l, SeenInts W v l ∧ (∀ x ∈ l, I64 x) ∧ l.length ≤ 140737488355328 := by
  obtain ⟨l, h1, h2, h3⟩ := open_rows Tryz.underlying36 c_int (by decide) (fun x => [Value.int .i64 x]) (fun x => rfl) I64 one_int h hz
  rw [flat_one] at h1
  exact ⟨l, h1, h2, few_len b_int h3⟩
def StepIn (W : World) (x : RStep) : Prop := (SeenWrs W x.2.1 x.1.op.writes ∧ SeenInts W x.2.2 x.1.keep) ∧ StBig x.1 ∧ (I64 x.1.a ∧ I64 x.1.b ∧ I64 x.1.c ∧ I64 x.1.op.n ∧ I64 x.1.op.snap ∧ ∀ y ∈ x.1.keep, I64 y)
set_option maxRecDepth 100000 in
theorem one_step : ∀ n cs (y : DataW H × List MemPlace), DataW.trod enc Tryz.prog W 0 (fun _ => true) true n 69 cs = some y → Few Tryz.prog 69 y.1 → ∃ x : RStep, cs = rowOf x ∧ StepIn W x := by
  intro n cs y h hz
  obtain ⟨xs, m, _, rfl, hl, hxl, hf⟩ := DataW.trod_struct Tryz.underlying69 h
  rw [c_step] at hl
  obtain ⟨c0, c1, c2, c3, c4, c5, c6, c7, c8, c9, c10, c11, rfl⟩ : ∃ c0 c1 c2 c3 c4 c5 c6 c7 c8 c9 c10 c11, cs = [c0, c1, c2, c3, c4, c5, c6, c7, c8, c9, c10, c11] := by
    match cs, hl with
    | [a0, a1, a2, a3, a4, a5, a6, a7, a8, a9, a10, a11], _ => exact ⟨_, _, _, _, _, _, _, _, _, _, _, _, rfl⟩
  obtain ⟨y0, y1, y2, y3, y4, y5, rfl⟩ : ∃ y0 y1 y2 y3 y4 y5, xs = [y0, y1, y2, y3, y4, y5] := by
    match xs, hxl with
    | [a0, a1, a2, a3, a4, a5], _ => exact ⟨_, _, _, _, _, _, rfl⟩
  have h0 := hf 0 _ rfl
  have h1 := hf 1 _ rfl
  have h2 := hf 2 _ rfl
  have h3 := hf 3 _ rfl
  have h4 := hf 4 _ rfl
  have h5 := hf 5 _ rfl
  simp [c_int, c_op, c_ints] at h0 h1 h2 h3 h4 h5
  obtain ⟨n0, e0, rfl, _⟩ := DataW.trod_int Tryz.underlying3 h0
  obtain ⟨n1, e1, rfl, w1⟩ := DataW.trod_int Tryz.underlying3 h1
  obtain ⟨n2, e2, rfl, w2⟩ := DataW.trod_int Tryz.underlying3 h2
  obtain ⟨n3, e3, rfl, w3⟩ := DataW.trod_int Tryz.underlying3 h3
  obtain ⟨zs, m2, _, rfl, _, hzl, hg⟩ := DataW.trod_struct Tryz.underlying67 h4
  obtain ⟨z0, z1, z2, z3, z4, z5, z6, rfl⟩ : ∃ z0 z1 z2 z3 z4 z5 z6, zs = [z0, z1, z2, z3, z4, z5, z6] := by
    match zs, hzl with
    | [a0, a1, a2, a3, a4, a5, a6], _ => exact ⟨_, _, _, _, _, _, _, rfl⟩
  have g0 := hg 0 _ rfl
  have g1 := hg 1 _ rfl
  have g2 := hg 2 _ rfl
  have g3 := hg 3 _ rfl
  have g4 := hg 4 _ rfl
  have g5 := hg 5 _ rfl
  have g6 := hg 6 _ rfl
  simp [c_int, c_str, c_bool, c_wrs] at g0 g1 g2 g3 g4 g5 g6
  obtain ⟨q0, f0, rfl, _⟩ := DataW.trod_int Tryz.underlying3 g0
  obtain ⟨q2, f2, rfl⟩ := DataW.trod_bool Tryz.underlying4 g2
  obtain ⟨q3, f3, rfl, _⟩ := DataW.trod_string Tryz.underlying9 g3
  obtain ⟨q4, f4, rfl, _⟩ := DataW.trod_string Tryz.underlying9 g4
  obtain ⟨q5, f5, rfl, v5⟩ := DataW.trod_int Tryz.underlying3 g5
  obtain ⟨q6, f6, rfl, v6⟩ := DataW.trod_int Tryz.underlying3 g6
  simp at e0 e1 e2 e3 f0 f2 f3 f4 f5 f6
  subst e0 e1 e2 e3 f0 f2 f3 f4 f5 f6
  obtain ⟨lw, hw1, hw2⟩ := open_wrs g1 (fun q hq => hz q (by simp [DataW.weights, DataW.weightsEach, Tryz.underlying69, Tryz.underlying67, hq]))
  obtain ⟨lk, hk1, hk2, hk3⟩ := open_nums h5 (fun q hq => hz q (by simp [DataW.weights, DataW.weightsEach, Tryz.underlying69, Tryz.underlying67, hq]))
  have t3 := hz q3.data.toList.length (by simp [DataW.weights, DataW.weightsEach, Tryz.underlying69, Tryz.underlying67])
  have t4 := hz q4.data.toList.length (by simp [DataW.weights, DataW.weightsEach, Tryz.underlying69, Tryz.underlying67])
  replace t3 := Nat.le_trans t3 reach_is
  replace t4 := Nat.le_trans t4 reach_is
  refine ⟨(⟨n0, n1, n2, n3, ⟨q0, lw, q2, q3.data.toList, q4.data.toList, q5, q6⟩, lk⟩, c5, c11), ?_, ⟨hw1, hk1⟩, ⟨hk3, t3, t4, hw2⟩, wf_i64 w1, wf_i64 w2, wf_i64 w3, wf_i64 v5, wf_i64 v6, hk2⟩
  unfold rowOf
  simp only [str_back]
theorem open_steps {v : Value} {d : DataW H} {p : List MemPlace} (h : DataW.Trod enc Tryz.prog W 0 (fun _ => true) true 22 v d p) (hz : Few Tryz.prog 22 d) (hv : ∃ a n c, v = .slice a n c) :
    ∃ rs, Seen W v rs ∧ rs.length ≤ 140737488355328 ∧ ∀ x ∈ rs, StepIn W x := by
  obtain ⟨a, n, c, rfl⟩ := hv
  obtain ⟨fuel, hf⟩ := h
  obtain ⟨l, h1, h2, h3⟩ := open_rows Tryz.underlying22 c_step (by decide) rowOf rowOf_len (StepIn W) one_step (y := (d, p)) hf hz
  exact ⟨l, ⟨h1, fun x hx => (h2 x hx).1⟩, few_len b_step h3, h2⟩
end
end Go.Proofs.YtjieelmbgfnllaaGreatDoor
