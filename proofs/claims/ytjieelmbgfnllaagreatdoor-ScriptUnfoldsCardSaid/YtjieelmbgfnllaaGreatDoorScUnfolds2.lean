/- The law ScriptUnfolds, walked: true at all inputs. Conditions: the table of powers and errors.errorType are laid; internal/bytealg's variable MaxLen holds an integer. -/
import Derived.Test.YtjieelmbgfnllaaGreatDoorScUnfolds
namespace Go.Proofs.YtjieelmbgfnllaaGreatDoor
open Go.RowKit Scr

theorem parse_split2 {w w1 : World} {t : Bs} {e : Ending} (hp : ParsePost w t e w1) : ∃ x v, e = .returned (.tuple #[x, v]) ∧ Mod [] w w1 ∧ (∀ f, parseP t = .error f → ∃ b, v = .iface 92 (.pointer (some ⟨b, 0, none⟩))) ∧ (∀ l, parseP t = .ok l → v = .nilIface ∧ ∃ rs A c, x = .slice A rs.length c ∧ rs.map (·.1) = l ∧ OwnSteps w1 w.heap.size x rs ∧ Lens rs ∧ rs.length ≤ 20000) := by
  unfold ParsePost at hp
  rcases hq : parseP t with f | l
  · rw [hq] at hp
    obtain ⟨v', he, ⟨b, rfl, _, _⟩, hm⟩ := hp
    exact ⟨_, _, he, hm, fun f' _ => ⟨b, rfl⟩, fun l h => by cases h⟩
  · rw [hq] at hp
    obtain ⟨v', rs, he, h1, h2, h3, h4, hm⟩ := hp
    refine ⟨_, _, he, hm, fun f h => by (cases h), fun l' hl => ⟨rfl, rs, ?_⟩⟩
    cases hl
    rcases h2.1.2 with ⟨rfl, h0⟩ | ⟨g, cap, cur, rfl, _⟩
    · exact ⟨none, 0, by rw [h0], h1, h2.own, h3, h4⟩
    · exact ⟨some ⟨g, 0, none⟩, cap, rfl, h1, h2.own, h3, h4⟩
theorem two_bytes (W : World) (b1 b2 : UInt8) : (convert 78 9 (.slice (some ⟨W.heap.size, 0, none⟩) 2 2)).run Tryz.prog (W.alloc (.cells #[.int .u8 b1.toNat, .int .u8 b2.toNat] 5)) = .ok (.string ⟨#[b1, b2]⟩) (W.alloc (.cells #[.int .u8 b1.toNat, .int .u8 b2.toNat] 5)) := by
  refine run_convert_bytes_back _ 78 9 5 ⟨W.heap.size, 0, none⟩ 2 [b1, b2] Tryz.underlying78 Tryz.underlying5 Tryz.underlying9 fun j hj => ?_
  have h := cells_new W [.int .u8 b1.toNat, .int .u8 b2.toNat] 5
  match j, hj with
  | 0, _ => exact h 0 _ rfl
  | 1, _ => exact h 1 _ rfl
theorem unfold_text (A B C S : ByteArray) (k : Nat) (hS : S.data.toList = count2 k) :
    ((((((A ++ (⟨#[10, 114, 101, 112, 101, 97, 116, 32]⟩ : ByteArray)) ++ S) ++ (⟨#[10]⟩ : ByteArray)) ++ B) ++ (⟨#[10, 101, 110, 100, 10]⟩ : ByteArray)) ++ C).data.toList = A.data.toList ++ 10 :: (repLine k ++ 10 :: (B.data.toList ++ 10 :: (wEnd ++ 10 :: C.data.toList))) := by
  simp only [app_str, hS, repLine, wRepeat, wEnd, List.append_assoc]
  rfl
/-- What the loop keeps. -/
def Sums (w0 wr : World) (lo1 lo2 lo3 hi : Nat) (vy vz vw : Value) (x y : List StepS) (ry rz : List RStep) (i : Nat) : Prop :=
  ∃ rs A c, vw = .slice A rs.length c ∧ rs.map (·.1) = x ++ times i y ∧ OwnSteps wr lo1 vw rs ∧ OwnSteps wr lo2 vy ry ∧ OwnSteps wr lo3 vz rz ∧ Mod [] w0 wr ∧ hi ≤ wr.heap.size ∧ (∀ g, vw.ownBlock = some g → g < lo2 ∨ hi ≤ g)
theorem Sums.step {w0 wr W : World} {lo1 lo2 lo3 hi : Nat} {vy vz vw : Value} {ry rz rs : List RStep} {An : Option Addr}
    (hw : OwnSteps wr lo1 vw rs) (hy : OwnSteps wr lo2 vy ry) (hz : OwnSteps wr lo3 vz rz) (hm : Mod [] w0 wr) (hhi : hi ≤ wr.heap.size) (hb : ∀ g, vw.ownBlock = some g → g < lo2 ∨ hi ≤ g) (hyb : ∀ g, vy.ownBlock = some g → lo2 ≤ g ∧ g < hi) (hzb : ∀ g, vz.ownBlock = some g → lo2 ≤ g ∧ g < hi) (hlo : w0.heap.size ≤ lo1)
    (hg : wr.grownBy W vw.ownBlock) (hA : An.map (·.block) = vw.ownBlock ∨ An.map (·.block) = some wr.heap.size) : OwnSteps W lo2 vy ry ∧ OwnSteps W lo3 vz rz ∧ Mod [] w0 W ∧ hi ≤ W.heap.size ∧ (∀ g, An.map (·.block) = some g → g < lo2 ∨ hi ≤ g) := by
  refine ⟨hy.apart hw hg (fun g h1 h2 => ?_), hz.apart hw hg (fun g h1 h2 => ?_), hm.grown hg (fun k hk => .inr ?_), Nat.le_trans hhi hg.size, fun g h1 => ?_⟩
  · have := hb g h1; have := hyb g h2; omega
  · have := hb g h1; have := hzb g h2; omega
  · exact Nat.le_trans hlo (own_ge hw.1 hk)
  · rcases hA with h | h
    · exact hb g (h.symm.trans h1)
    · rw [h1] at h; cases h; exact .inr hhi
theorem Sums.next {w0 wr W : World} {lo1 lo2 lo3 hi : Nat} {vy vz vw : Value} {x y : List StepS} {ry rz rs : List RStep} {i : Nat} {A : Option Addr} {c : Nat}
    (h1 : rs.map (·.1) = x ++ times i y) (hw : OwnSteps wr lo1 vw rs) (hy : OwnSteps wr lo2 vy ry) (hz : OwnSteps wr lo3 vz rz) (hm : Mod [] w0 wr) (hhi : hi ≤ wr.heap.size) (hb : ∀ g, vw.ownBlock = some g → g < lo2 ∨ hi ≤ g) (hyb : ∀ g, vy.ownBlock = some g → lo2 ≤ g ∧ g < hi) (hzb : ∀ g, vz.ownBlock = some g → lo2 ≤ g ∧ g < hi) (hlo : w0.heap.size ≤ lo1)
    (hye : ry.map (·.1) = y) {nn : Nat} (hown : OwnSteps W lo1 (.slice A nn c) (rs ++ ry)) (hg : wr.grownBy W vw.ownBlock) (hA : A.map (·.block) = vw.ownBlock ∨ A.map (·.block) = some wr.heap.size) (hnn : nn = (rs ++ ry).length) : Sums w0 W lo1 lo2 lo3 hi vy vz (.slice A nn c) x y ry rz (i + 1) := by
  subst hnn
  obtain ⟨a1, a2, a3, a4, a5⟩ := Sums.step hw hy hz hm hhi hb hyb hzb hlo hg hA
  refine ⟨rs ++ ry, A, c, rfl, by rw [List.map_append, h1, hye, times_snoc, List.append_assoc], hown, a1, a2, a3, a4, fun g h => a5 g ?_⟩
  cases A with
  | none => cases h
  | some a => exact h

set_option maxRecDepth 100000 in
set_option maxHeartbeats 8000000 in
theorem unfolds_walk (w : World) (A B C : ByteArray) (n m : Int) (hA : A.size ≤ 140737488355328) (hB : B.size ≤ 140737488355328) (hC : C.size ≤ 140737488355328) (ht : tabIs w) (hg : errTypeIs w) (hm : w.cell? ⟨3, 0, none⟩ = some (.int .i64 m)) :
    Calls Tryz.prog 8 #[.string A, .string B, .string C, .int .i64 n] w fun e w' => e = .returned (.bool true) ∧ Mod [] w w' := by
  have HS := Lib.hid (And.intro ht (And.intro hg hm))
  clear ht hg hm
  by_cases hlen : 3000 < A.size + B.size + C.size
  · have hl1 : (3000 : Int) < (A.size : Int) + (B.size : Int) + (C.size : Int) := by omega
    go_enter Tryz.func8, Tryz.ntmps8
    go_wp2
    go_ret
    exact ⟨rfl, Mod.refl _ _⟩
  have hl1 : ¬ (3000 : Int) < (A.size : Int) + (B.size : Int) + (C.size : Int) := by omega
  by_cases hn1 : n < 1
  · go_enter Tryz.func8, Tryz.ntmps8
    go_wp2
    go_ret
    exact ⟨rfl, Mod.refl _ _⟩
  by_cases hn2 : 20 < n
  · go_enter Tryz.func8, Tryz.ntmps8
    go_wp2
    go_ret
    exact ⟨rfl, Mod.refl _ _⟩
  obtain ⟨k, rfl⟩ : ∃ k : Nat, n = k := ⟨n.toNat, by omega⟩
  go_enter Tryz.func8, Tryz.ntmps8
  go_wp2_with fail
  refine (known_walk w m HS.out.1 HS.out.2.1 HS.out.2.2).mono ?_
  rintro e w1 ⟨rfl, hm1⟩
  have H1 := Lib.hid hm1
  clear hm1
  go_wp2_with fail
  refine (parse_walk w1 A m (H1.out.cell HS.out.2.1 (by simp)) (H1.out.cell HS.out.2.2 (by simp))).mono ?_
  intro e w2 hp
  obtain ⟨x1, v1, rfl, hm2, hv1, hv1'⟩ := parse_split2 hp
  have HP1 := Lib.hid (And.intro hv1 hv1')
  have H2 := Lib.hid (And.intro hm2 (H1.out.trans hm2))
  clear hp hm2 hv1 hv1'
  go_wp2_with fail
  refine (parse_walk w2 B m (H2.out.2.cell HS.out.2.1 (by simp)) (H2.out.2.cell HS.out.2.2 (by simp))).mono ?_
  intro e w3 hp
  obtain ⟨x2, v2, rfl, hm3, hv2, hv2'⟩ := parse_split2 hp
  have HP2 := Lib.hid (And.intro hv2 hv2')
  have H3 := Lib.hid (And.intro hm3 (H2.out.2.trans hm3))
  clear hp hm3 hv2 hv2'
  go_wp2_with fail
  refine (parse_walk w3 C m (H3.out.2.cell HS.out.2.1 (by simp)) (H3.out.2.cell HS.out.2.2 (by simp))).mono ?_
  intro e w4 hp
  obtain ⟨x3, v3, rfl, hm4, hv3, hv3'⟩ := parse_split2 hp
  have HP3 := Lib.hid (And.intro hv3 hv3')
  have H4 := Lib.hid (And.intro hm4 (H3.out.2.trans hm4))
  clear hp hm4 hv3 hv3'
  rcases hq1 : parseP A.data.toList with f | x
  · obtain ⟨mb, rfl⟩ := HP1.out.1 f hq1
    clear hq1
    go_wp2
    go_ret
    exact ⟨rfl, H4.out.2⟩
  rcases hq2 : parseP B.data.toList with f | y
  · obtain ⟨mb, rfl⟩ := HP2.out.1 f hq2
    obtain ⟨rfl, _⟩ := HP1.out.2 x hq1
    clear hq1 hq2
    go_wp2
    go_ret
    exact ⟨rfl, H4.out.2⟩
  rcases hq3 : parseP C.data.toList with f | z
  · obtain ⟨mb, rfl⟩ := HP3.out.1 f hq3
    obtain ⟨rfl, _⟩ := HP1.out.2 x hq1
    obtain ⟨rfl, _⟩ := HP2.out.2 y hq2
    clear hq1 hq2 hq3
    go_wp2
    go_ret
    exact ⟨rfl, H4.out.2⟩
  have HQ := Lib.hid (And.intro hq1 (And.intro hq2 hq3))
  obtain ⟨rfl, rx, Ax, cx, rfl, hx1, hx2, hx3, hx4⟩ := HP1.out.2 x hq1
  obtain ⟨rfl, ry, Ay, cy, rfl, hy1, hy2, hy3, hy4⟩ := HP2.out.2 y hq2
  obtain ⟨rfl, rz, Az, cz, rfl, hz1, hz2, hz3, hz4⟩ := HP3.out.2 z hq3
  clear hq1 hq2 hq3 HP1 HP2 HP3
  have hm24 := H3.out.1.trans H4.out.1
  have HX := Lib.hid (And.intro hx1 (And.intro (hx2.new hm24) (And.intro hx3 hx4)))
  have HY := Lib.hid (And.intro hy1 (And.intro (hy2.new H4.out.1) (And.intro hy3 hy4)))
  have HZ := Lib.hid (And.intro hz1 (And.intro hz2 (And.intro hz3 hz4)))
  have hyb : ∀ g, Value.ownBlock (.slice Ay ry.length cy) = some g → w2.heap.size ≤ g ∧ g < w4.heap.size := fun g hg => ⟨own_ge hy2.1 hg, Nat.lt_of_lt_of_le (own_lt hy2.1 hg) H4.out.1.size⟩
  have hzb : ∀ g, Value.ownBlock (.slice Az rz.length cz) = some g → w2.heap.size ≤ g ∧ g < w4.heap.size := fun g hg => ⟨Nat.le_trans H3.out.1.size (own_ge hz2.1 hg), own_lt hz2.1 hg⟩
  have hxb : ∀ g, Value.ownBlock (.slice Ax rx.length cx) = some g → g < w2.heap.size ∨ w4.heap.size ≤ g := fun g hg => .inl (own_lt hx2.1 hg)
  have hlo := H1.out.size
  have hlo2 := H2.out.1.size
  have hlo3 := H3.out.1.size
  have HBK := Lib.hid (And.intro hyb (And.intro hzb (And.intro hlo (And.intro hlo2 hlo3))))
  have HST := Lib.hid (show Sums w w4 w1.heap.size w2.heap.size w3.heap.size w4.heap.size (.slice Ay ry.length cy) (.slice Az rz.length cz) (.slice Ax rx.length cx) x y ry rz 0 from ⟨rx, Ax, cx, rfl, by rw [times_zero, List.append_nil]; exact HX.out.1, HX.out.2.1, HY.out.2.1, HZ.out.2.1, H4.out.2, Nat.le_refl _, hxb⟩)
  clear hx1 hx2 hx3 hx4 hy1 hy2 hy3 hy4 hz1 hz2 hz3 hz4 hm24 hyb hzb hxb hlo hlo2 hlo3
  obtain ⟨ny, hny⟩ : ∃ ny, ny = ry.length := ⟨_, rfl⟩
  obtain ⟨nz, hnz⟩ : ∃ nz, nz = rz.length := ⟨_, rfl⟩
  obtain ⟨nx, hnx⟩ : ∃ nx, nx = rx.length := ⟨_, rfl⟩
  rw [← hny, ← hnz, ← hnx] at HST
  rw [← hny, ← hnz] at HBK
  rw [← hny, ← hnz, ← hnx]
  have HNN := Lib.hid (And.intro hny (And.intro hnz hnx))
  clear hny hnz hnx
  go_wp2
  go_loopw [15, 16] (fun s15 s16 wr => ∃ j : Nat, s16 = .int .i64 j ∧ j ≤ k ∧ Sums w wr w1.heap.size w2.heap.size w3.heap.size w4.heap.size (.slice Ay ny cy) (.slice Az nz cz) s15 x y ry rz j) (fun _ s16 _ => k - (RowKit.intOf s16).toNat)
  case atStart => exact ⟨0, by go_num, Nat.zero_le _, HST.out⟩
  case round =>
    obtain ⟨j, rfl, hj, rs, Aw, cw, rfl, hr1, hr2, hr3, hr4, hr5, hr6, hr7⟩ := hrel
    have hrl : rs.length = rx.length + ry.length * j := by
      have e1 := congrArg List.length hr1
      rw [List.length_map, List.length_append, times_length, ← HX.out.1, ← HY.out.1, List.length_map, List.length_map] at e1
      exact e1
    have hrb : ry.length * j ≤ 20000 * 20 := Nat.mul_le_mul HY.out.2.2.2 (by omega)
    have hsum : rs.length + ry.length ≤ 500000 := by have := HX.out.2.2.2; have := HY.out.2.2.2; omega
    have hsum3 : rs.length + rz.length ≤ 500000 := by have := HX.out.2.2.2; have := HZ.out.2.2.2; omega
    have HR := Lib.hid (And.intro hr1 (And.intro hr2 (And.intro hr3 (And.intro hr4 (And.intro hr5 (And.intro hr6 (And.intro hr7 (And.intro hsum hsum3))))))))
    clear hr1 hr2 hr3 hr4 hr5 hr6 hr7 hrl hrb hsum hsum3
    obtain ⟨nr, hnr⟩ : ∃ nr, nr = rs.length := ⟨_, rfl⟩
    rw [← hnr] at HR ⊢
    have HNR := Lib.hid hnr
    clear hnr
    by_cases hjk : j < k
    · have hjki : (j : Int) < (k : Int) := by omega
      go_wp2_with (at_builtin; refine wpList_append_steps rfl _ _ rfl w1.heap.size w2.heap.size _ _ rs ry rfl rfl HR.out.2.1 HR.out.2.2.1 (by have := HNR.out; have := HNN.out.1; have := HR.out.2.2.2.2.2.2.2.1; omega) (by have := HR.out.2.2.2.2.2.1; have := HBK.out.2.2.2.1; have := H3.out.1.size; have := H4.out.1.size; omega) HBK.out.2.2.2.1 ?_; intro A2 c2 nn W2 hnn hW1 hW2 hW3; have HW := Lib.hid (And.intro hW1 (And.intro hW2 (And.intro hW3 hnn))); clear hnn hW1 hW2 hW3)
      have HNX := Lib.hid (Sums.next HR.out.1 HR.out.2.1 HR.out.2.2.1 HR.out.2.2.2.1 HR.out.2.2.2.2.1 HR.out.2.2.2.2.2.1 HR.out.2.2.2.2.2.2.1 HBK.out.1 HBK.out.2.1 HBK.out.2.2.1 HY.out.1 HW.out.1 HW.out.2.1 HW.out.2.2.1 HW.out.2.2.2)
      go_roundw
      case rel => exact ⟨j + 1, by go_num, by omega, HNX.out⟩
      case measure => simp [RowKit.intOf]; omega
    · have hjk2 : j = k := by omega
      subst hjk2
      have hjki : ¬ (j : Int) < (j : Int) := by omega
      go_wp2_with (at_builtin; refine wpList_append_steps rfl _ _ rfl w1.heap.size w3.heap.size _ _ rs rz rfl rfl HR.out.2.1 HR.out.2.2.2.1 (by have := HNR.out; have := HR.out.2.2.2.2.2.2.2.2; omega) (by have := HR.out.2.2.2.2.2.1; have := HBK.out.2.2.2.1; have := H3.out.1.size; have := H4.out.1.size; omega) (by have := HBK.out.2.2.2.1; have := HBK.out.2.2.2.2; omega) ?_; intro A2 c2 nn W2 hnn hW1 hW2 hW3; have HW := Lib.hid (And.intro hW1 (And.intro hW2 (And.intro hW3 hnn))); clear hnn hW1 hW2 hW3)
      have HE := Sums.step HR.out.2.1 HR.out.2.2.1 HR.out.2.2.2.1 HR.out.2.2.2.2.1 HR.out.2.2.2.2.2.1 HR.out.2.2.2.2.2.2.1 HBK.out.1 HBK.out.2.1 HBK.out.2.2.1 HW.out.2.1 HW.out.2.2.1
      have H5 := Lib.hid (show (rs ++ rz).map (·.1) = x ++ times j y ++ z ∧ True ∧ OwnSteps W2 w1.heap.size (.slice A2 nn c2) (rs ++ rz) ∧ Mod [] w W2 ∧ nn = (rs ++ rz).length from ⟨by rw [List.map_append, HR.out.1, HZ.out.1], trivial, HW.out.1, HE.2.2.1, HW.out.2.2.2⟩)
      clear HE
      obtain ⟨b1, hb1⟩ : ∃ b1 : UInt8, b1 = UInt8.ofNat (48 + j / 10) := ⟨_, rfl⟩
      obtain ⟨b2, hb2⟩ : ∃ b2 : UInt8, b2 = UInt8.ofNat (48 + j % 10) := ⟨_, rfl⟩
      have hcv : (convert 78 9 (.slice (some ⟨W2.heap.size, 0, none⟩) 2 2)).run Tryz.prog (W2.alloc (.cells #[.int .u8 (48 + (j : Int) / 10), .int .u8 (48 + (j : Int) % 10)] 5)) = .ok (.string ⟨#[b1, b2]⟩) (W2.alloc (.cells #[.int .u8 (48 + (j : Int) / 10), .int .u8 (48 + (j : Int) % 10)] 5)) := by
        have h0 := two_bytes W2 b1 b2
        have e1 : (b1.toNat : Int) = 48 + (j : Int) / 10 := by
          rw [hb1, UInt8.toNat_ofNat']; omega
        have e2 : (b2.toNat : Int) = 48 + (j : Int) % 10 := by
          rw [hb2, UInt8.toNat_ofNat']; omega
        rw [e1, e2] at h0
        exact h0
      by_cases hj10 : j < 10
      · have hj10i : (j : Int) < 10 := by omega
        have HS2 := Lib.hid (show ((⟨#[b1, b2]⟩ : ByteArray).extract 1 2).data.toList = count2 j by
          rw [Lib.extract_data, count2, if_pos hj10, hb2, Nat.mod_eq_of_lt hj10]; rfl)
        have HCV := Lib.hid hcv
        clear hcv hb1 hb2
        go_wp2_with fail
        rw [HCV.out]
        clear HCV
        go_wp2_with fail
        refine (folds_walk _ B (by omega)).mono ?_
        rintro e w6 ⟨b, rfl, hb, rfl⟩
        have HB := Lib.hid hb
        clear hb
        rcases b with _ | _
        · by_cases h2w : 20000 < nn
          · have h2wi : (20000 : Int) < (nn : Int) := by omega
            go_wp2
            go_ret
            exact ⟨rfl, H5.out.2.2.2.1.alloc _⟩
          · have h2wi : ¬ (20000 : Int) < (nn : Int) := by omega
            have hlaw := unfolds_law (n := j) (by rw [← Lib.size_eq, ← Lib.size_eq, ← Lib.size_eq]; omega) (by omega) (by omega) HQ.out.1 HQ.out.2.1 HQ.out.2.2 (HB.out rfl) (by
              have e1 := congrArg List.length H5.out.1
              have e2 := H5.out.2.2.2.2
              rw [List.length_map] at e1
              simp only [List.length_append, times_length] at e1 e2
              omega)
            have HL := Lib.hid (And.intro hlaw h2w)
            clear h2w hlaw
            go_wp2_with fail
            refine (parse_of _ _ _ (unfold_text A B C _ j HS2.out) m ((H5.out.2.2.2.1.alloc _).cell HS.out.2.1 (by simp)) ((H5.out.2.2.2.1.alloc _).cell HS.out.2.2 (by simp))).mono ?_
            intro e w7 hp
            obtain ⟨x7, v7, rfl, hm7, _, hv7⟩ := parse_split2 hp
            obtain ⟨rfl, rsg, Ag, cg, rfl, hg1, hg2, hg3, hg4⟩ := hv7 _ HL.out.1
            have H7 := Lib.hid (And.intro hg1 (And.intro hg2 (And.intro hg3 (And.intro hg4 hm7))))
            clear hp hm7 hv7 hg1 hg2 hg3 hg4
            go_wp2_with fail
            refine (lawsteps_walk w7 _ _ rsg (rs ++ rz) H7.out.2.1.seen ((H5.out.2.2.1.new ((Mod.refl [] _).alloc _)).new H7.out.2.2.2.2).seen (by rw [H7.out.1, H5.out.1]) (fun x hx => ?_) (by have := H7.out.2.2.2.1; omega)).mono ?_
            · have hnc := parse_nice HL.out.1 x.1 (by rw [← H7.out.1]; exact List.mem_map_of_mem hx)
              exact ⟨hnc.1.2.2.1, hnc.1.2.2.2.1⟩
            rintro e w8 ⟨rfl, hm8⟩
            have HF := Lib.hid (((H5.out.2.2.2.1.alloc _).trans H7.out.2.2.2.2).trans hm8)
            clear hm8
            go_wp2
            go_ret
            exact ⟨rfl, HF.out⟩
        · go_wp2
          go_ret
          exact ⟨rfl, H5.out.2.2.2.1.alloc _⟩
      · have hj10i : ¬ (j : Int) < 10 := by omega
        have HS2 := Lib.hid (show (⟨#[b1, b2]⟩ : ByteArray).data.toList = count2 j by
          rw [count2, if_neg hj10, hb1, hb2])
        have HCV := Lib.hid hcv
        clear hcv hb1 hb2
        go_wp2_with fail
        rw [HCV.out]
        clear HCV
        go_wp2_with fail
        refine (folds_walk _ B (by omega)).mono ?_
        rintro e w6 ⟨b, rfl, hb, rfl⟩
        have HB := Lib.hid hb
        clear hb
        rcases b with _ | _
        · by_cases h2w : 20000 < nn
          · have h2wi : (20000 : Int) < (nn : Int) := by omega
            go_wp2
            go_ret
            exact ⟨rfl, H5.out.2.2.2.1.alloc _⟩
          · have h2wi : ¬ (20000 : Int) < (nn : Int) := by omega
            have hlaw := unfolds_law (n := j) (by rw [← Lib.size_eq, ← Lib.size_eq, ← Lib.size_eq]; omega) (by omega) (by omega) HQ.out.1 HQ.out.2.1 HQ.out.2.2 (HB.out rfl) (by
              have e1 := congrArg List.length H5.out.1
              have e2 := H5.out.2.2.2.2
              rw [List.length_map] at e1
              simp only [List.length_append, times_length] at e1 e2
              omega)
            have HL := Lib.hid (And.intro hlaw h2w)
            clear h2w hlaw
            go_wp2_with fail
            refine (parse_of _ _ _ (unfold_text A B C _ j HS2.out) m ((H5.out.2.2.2.1.alloc _).cell HS.out.2.1 (by simp)) ((H5.out.2.2.2.1.alloc _).cell HS.out.2.2 (by simp))).mono ?_
            intro e w7 hp
            obtain ⟨x7, v7, rfl, hm7, _, hv7⟩ := parse_split2 hp
            obtain ⟨rfl, rsg, Ag, cg, rfl, hg1, hg2, hg3, hg4⟩ := hv7 _ HL.out.1
            have H7 := Lib.hid (And.intro hg1 (And.intro hg2 (And.intro hg3 (And.intro hg4 hm7))))
            clear hp hm7 hv7 hg1 hg2 hg3 hg4
            go_wp2_with fail
            refine (lawsteps_walk w7 _ _ rsg (rs ++ rz) H7.out.2.1.seen ((H5.out.2.2.1.new ((Mod.refl [] _).alloc _)).new H7.out.2.2.2.2).seen (by rw [H7.out.1, H5.out.1]) (fun x hx => ?_) (by have := H7.out.2.2.2.1; omega)).mono ?_
            · have hnc := parse_nice HL.out.1 x.1 (by rw [← H7.out.1]; exact List.mem_map_of_mem hx)
              exact ⟨hnc.1.2.2.1, hnc.1.2.2.2.1⟩
            rintro e w8 ⟨rfl, hm8⟩
            have HF := Lib.hid (((H5.out.2.2.2.1.alloc _).trans H7.out.2.2.2.2).trans hm8)
            clear hm8
            go_wp2
            go_ret
            exact ⟨rfl, HF.out⟩
        · go_wp2
          go_ret
          exact ⟨rfl, H5.out.2.2.2.1.alloc _⟩
end Go.Proofs.YtjieelmbgfnllaaGreatDoor
