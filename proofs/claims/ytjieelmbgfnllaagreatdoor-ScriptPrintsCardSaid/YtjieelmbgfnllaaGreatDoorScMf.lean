/- The reference's opText at operations other than a batch. Conditions: the operation is nice. The reference's opText at a scan. Conditions: the operation is nice. The reference's opText at a batch. Conditions: the operation is nice. -/
import Derived.Test.YtjieelmbgfnllaaGreatDoorScMd
import Derived.Test.YtjieelmbgfnllaaGreatDoorScBatch
namespace Go.Proofs.YtjieelmbgfnllaaGreatDoor
open Go.RowKit Scr

theorem ret_tmps3 {P : Program} {fn : Func} {p q r : Tmp} {R : Ending → World → Prop} {a : Act} {w : World} (h : fn.results = #[.tmp p, .tmp q, .tmp r]) (hdf : a.defers = [])
    (hR : R (.returned (.tuple #[a.tmps.getD p undef, a.tmps.getD q undef, a.tmps.getD r undef])) w) : bodyPost P fn R .ret a w := by
  refine bodyPost_ret (v := .tuple #[a.tmps.getD p undef, a.tmps.getD q undef, a.tmps.getD r undef]) ?_ hdf hR
  simp [results, h]
/-- What the reference's opText answers. -/
def OpTPost (w : World) (o : OpS) (e : Ending) (w' : World) : Prop :=
  ∃ (N Q : ByteArray) (ok : Bool), e = .returned (.tuple #[.string N, .string Q, .bool ok]) ∧ Mod [] w w' ∧ N.size ≤ 20 ∧ Q.size ≤ 1000000 ∧ (ok = true → okO o = true ∧ ∀ c, operatedL o c = N.data.toList ++ c ++ Q.data.toList) ∧ (ok = false → okO o = false ∨ ∀ c, 65536 < (operatedL o c).length)
theorem opt_no {w w' : World} {o : OpS} (N Q : ByteArray) (h : okO o = false) (hN : N.size ≤ 20) (hQ : Q.size ≤ 1000000) (hm : Mod [] w w') : OpTPost w o (.returned (.tuple #[.string N, .string Q, .bool false])) w' :=
  ⟨N, Q, false, rfl, hm, hN, hQ, fun h => by (cases h), fun _ => .inl h⟩
theorem opt_yes {w w' : World} {o : OpS} (N Q : ByteArray) (h : okO o = true) (h2 : ∀ c, operatedL o c = N.data.toList ++ c ++ Q.data.toList) (hN : N.size ≤ 20) (hQ : Q.size ≤ 1000000) (hm : Mod [] w w') : OpTPost w o (.returned (.tuple #[.string N, .string Q, .bool true])) w' :=
  ⟨N, Q, true, rfl, hm, hN, hQ, fun _ => ⟨h, h2⟩, fun h => by (cases h)⟩
set_option maxRecDepth 100000 in
set_option maxHeartbeats 8000000 in
theorem optext_sync (w : World) (l : List Wr) (b : Bool) (y t : Bs) (n p : Int) (wv : Value) (hw : SeenWrs w wv l) (hnice : OpNice ⟨2, l, b, y, t, n, p⟩) :
    Calls Tryz.prog 214 #[.agg #[.int .i64 2, wv, .bool b, .string ⟨y.toArray⟩, .string ⟨t.toArray⟩, .int .i64 n, .int .i64 p]] w (OpTPost w ⟨2, l, b, y, t, n, p⟩) := by
  have HS := Lib.hid (And.intro hw hnice)
  obtain ⟨A, c, rfl, _⟩ := hw
  have z40 := z40
  by_cases hl : l = []
  rotate_left
  · have hb : (0 : Int) < (l.length : Int) := by
      have := List.length_pos_iff.2 hl
      omega
    have HL := Lib.hid hl
    clear hl
    obtain ⟨nl, hnl⟩ : ∃ nl, nl = l.length := ⟨_, rfl⟩
    rw [← hnl] at hb ⊢
    clear hnl
    go_enter Tryz.func214, Tryz.ntmps214
    go_wp2
    refine ret_tmps3 Tryz.results214 rfl ?_
    exact opt_no ⟨#[]⟩ ⟨#[]⟩ (by simp [okO, HL.out]) (by decide) (by decide) (by have hM := Mod.refl [] w; (repeat (first | assumption | refine Mod.alloc ?_ _ | refine Mod.drew ?_ | refine Mod.drewN ?_ _ | refine Mod.setCell ?_ (by first | (simp; done) | (simp; omega)) _)))
  subst hl
  rcases b with _ | _
  rotate_left
  · go_enter Tryz.func214, Tryz.ntmps214
    go_wp2
    refine ret_tmps3 Tryz.results214 rfl ?_
    exact opt_no ⟨#[115, 121, 110, 99]⟩ ⟨#[]⟩ (by simp [okO]) (by decide) (by decide) (by have hM := Mod.refl [] w; (repeat (first | assumption | refine Mod.alloc ?_ _ | refine Mod.drew ?_ | refine Mod.drewN ?_ _ | refine Mod.setCell ?_ (by first | (simp; done) | (simp; omega)) _)))
  by_cases hy : y = []
  rotate_left
  · have hb : ((⟨y.toArray⟩ : ByteArray).toList == []) = false := by
      rw [beq_eq_false_iff_ne, Lib.toList_data]; exact hy
    have HF := Lib.hid hy
    clear hy
    go_enter Tryz.func214, Tryz.ntmps214
    go_wp2
    refine ret_tmps3 Tryz.results214 rfl ?_
    exact opt_no ⟨#[115, 121, 110, 99]⟩ ⟨#[]⟩ (by simp [okO, HF.out]) (by decide) (by decide) (by have hM := Mod.refl [] w; (repeat (first | assumption | refine Mod.alloc ?_ _ | refine Mod.drew ?_ | refine Mod.drewN ?_ _ | refine Mod.setCell ?_ (by first | (simp; done) | (simp; omega)) _)))
  subst hy
  by_cases ht : t = []
  rotate_left
  · have hb : ((⟨t.toArray⟩ : ByteArray).toList == []) = false := by
      rw [beq_eq_false_iff_ne, Lib.toList_data]; exact ht
    have HF := Lib.hid ht
    clear ht
    go_enter Tryz.func214, Tryz.ntmps214
    go_wp2
    refine ret_tmps3 Tryz.results214 rfl ?_
    exact opt_no ⟨#[115, 121, 110, 99]⟩ ⟨#[]⟩ (by simp [okO, HF.out]) (by decide) (by decide) (by have hM := Mod.refl [] w; (repeat (first | assumption | refine Mod.alloc ?_ _ | refine Mod.drew ?_ | refine Mod.drewN ?_ _ | refine Mod.setCell ?_ (by first | (simp; done) | (simp; omega)) _)))
  subst ht
  by_cases hn : n = 0
  rotate_left
  · have hb : (n == 0) = false := by rw [beq_eq_false_iff_ne]; exact hn
    have HF := Lib.hid hn
    clear hn
    go_enter Tryz.func214, Tryz.ntmps214
    go_wp2
    refine ret_tmps3 Tryz.results214 rfl ?_
    exact opt_no ⟨#[115, 121, 110, 99]⟩ ⟨#[]⟩ (by simp [okO, HF.out]) (by decide) (by decide) (by have hM := Mod.refl [] w; (repeat (first | assumption | refine Mod.alloc ?_ _ | refine Mod.drew ?_ | refine Mod.drewN ?_ _ | refine Mod.setCell ?_ (by first | (simp; done) | (simp; omega)) _)))
  subst hn
  by_cases hp : p = 0
  rotate_left
  · have hb : (p == 0) = false := by rw [beq_eq_false_iff_ne]; exact hp
    have HF := Lib.hid hp
    clear hp
    go_enter Tryz.func214, Tryz.ntmps214
    go_wp2
    refine ret_tmps3 Tryz.results214 rfl ?_
    exact opt_no ⟨#[115, 121, 110, 99]⟩ ⟨#[]⟩ (by simp [okO, HF.out]) (by decide) (by decide) (by have hM := Mod.refl [] w; (repeat (first | assumption | refine Mod.alloc ?_ _ | refine Mod.drew ?_ | refine Mod.drewN ?_ _ | refine Mod.setCell ?_ (by first | (simp; done) | (simp; omega)) _)))
  subst hp
  go_enter Tryz.func214, Tryz.ntmps214
  go_wp2_with fail
  refine (within_walk _ 0).mono ?_
  rintro e X ⟨rfl, rfl⟩
  go_wp2_with fail
  refine (within_walk _ 0).mono ?_
  rintro e X ⟨rfl, rfl⟩
  go_wp2
  refine ret_tmps3 Tryz.results214 rfl ?_
  exact opt_yes ⟨#[115, 121, 110, 99]⟩ ⟨#[]⟩ (by simp [okO, z40]) (fun c => by simp [operatedL, wSync]) (by decide) (by decide) (by have hM := Mod.refl [] w; (repeat (first | assumption | refine Mod.alloc ?_ _ | refine Mod.drew ?_ | refine Mod.drewN ?_ _ | refine Mod.setCell ?_ (by first | (simp; done) | (simp; omega)) _)))
set_option maxRecDepth 100000 in
set_option maxHeartbeats 8000000 in
theorem optext_snap (w : World) (l : List Wr) (b : Bool) (y t : Bs) (n p : Int) (wv : Value) (hw : SeenWrs w wv l) (hnice : OpNice ⟨5, l, b, y, t, n, p⟩) :
    Calls Tryz.prog 214 #[.agg #[.int .i64 5, wv, .bool b, .string ⟨y.toArray⟩, .string ⟨t.toArray⟩, .int .i64 n, .int .i64 p]] w (OpTPost w ⟨5, l, b, y, t, n, p⟩) := by
  have HS := Lib.hid (And.intro hw hnice)
  obtain ⟨A, c, rfl, _⟩ := hw
  have z40 := z40
  by_cases hl : l = []
  rotate_left
  · have hb : (0 : Int) < (l.length : Int) := by
      have := List.length_pos_iff.2 hl
      omega
    have HL := Lib.hid hl
    clear hl
    obtain ⟨nl, hnl⟩ : ∃ nl, nl = l.length := ⟨_, rfl⟩
    rw [← hnl] at hb ⊢
    clear hnl
    go_enter Tryz.func214, Tryz.ntmps214
    go_wp2
    refine ret_tmps3 Tryz.results214 rfl ?_
    exact opt_no ⟨#[]⟩ ⟨#[]⟩ (by simp [okO, HL.out]) (by decide) (by decide) (by have hM := Mod.refl [] w; (repeat (first | assumption | refine Mod.alloc ?_ _ | refine Mod.drew ?_ | refine Mod.drewN ?_ _ | refine Mod.setCell ?_ (by first | (simp; done) | (simp; omega)) _)))
  subst hl
  rcases b with _ | _
  rotate_left
  · go_enter Tryz.func214, Tryz.ntmps214
    go_wp2
    refine ret_tmps3 Tryz.results214 rfl ?_
    exact opt_no ⟨#[115, 110, 97, 112]⟩ ⟨#[]⟩ (by simp [okO]) (by decide) (by decide) (by have hM := Mod.refl [] w; (repeat (first | assumption | refine Mod.alloc ?_ _ | refine Mod.drew ?_ | refine Mod.drewN ?_ _ | refine Mod.setCell ?_ (by first | (simp; done) | (simp; omega)) _)))
  by_cases hy : y = []
  rotate_left
  · have hb : ((⟨y.toArray⟩ : ByteArray).toList == []) = false := by
      rw [beq_eq_false_iff_ne, Lib.toList_data]; exact hy
    have HF := Lib.hid hy
    clear hy
    go_enter Tryz.func214, Tryz.ntmps214
    go_wp2
    refine ret_tmps3 Tryz.results214 rfl ?_
    exact opt_no ⟨#[115, 110, 97, 112]⟩ ⟨#[]⟩ (by simp [okO, HF.out]) (by decide) (by decide) (by have hM := Mod.refl [] w; (repeat (first | assumption | refine Mod.alloc ?_ _ | refine Mod.drew ?_ | refine Mod.drewN ?_ _ | refine Mod.setCell ?_ (by first | (simp; done) | (simp; omega)) _)))
  subst hy
  by_cases ht : t = []
  rotate_left
  · have hb : ((⟨t.toArray⟩ : ByteArray).toList == []) = false := by
      rw [beq_eq_false_iff_ne, Lib.toList_data]; exact ht
    have HF := Lib.hid ht
    clear ht
    go_enter Tryz.func214, Tryz.ntmps214
    go_wp2
    refine ret_tmps3 Tryz.results214 rfl ?_
    exact opt_no ⟨#[115, 110, 97, 112]⟩ ⟨#[]⟩ (by simp [okO, HF.out]) (by decide) (by decide) (by have hM := Mod.refl [] w; (repeat (first | assumption | refine Mod.alloc ?_ _ | refine Mod.drew ?_ | refine Mod.drewN ?_ _ | refine Mod.setCell ?_ (by first | (simp; done) | (simp; omega)) _)))
  subst ht
  by_cases hn : n = 0
  rotate_left
  · have hb : (n == 0) = false := by rw [beq_eq_false_iff_ne]; exact hn
    have HF := Lib.hid hn
    clear hn
    go_enter Tryz.func214, Tryz.ntmps214
    go_wp2
    refine ret_tmps3 Tryz.results214 rfl ?_
    exact opt_no ⟨#[115, 110, 97, 112]⟩ ⟨#[]⟩ (by simp [okO, HF.out]) (by decide) (by decide) (by have hM := Mod.refl [] w; (repeat (first | assumption | refine Mod.alloc ?_ _ | refine Mod.drew ?_ | refine Mod.drewN ?_ _ | refine Mod.setCell ?_ (by first | (simp; done) | (simp; omega)) _)))
  subst hn
  by_cases hp : p = 0
  rotate_left
  · have hb : (p == 0) = false := by rw [beq_eq_false_iff_ne]; exact hp
    have HF := Lib.hid hp
    clear hp
    go_enter Tryz.func214, Tryz.ntmps214
    go_wp2
    refine ret_tmps3 Tryz.results214 rfl ?_
    exact opt_no ⟨#[115, 110, 97, 112]⟩ ⟨#[]⟩ (by simp [okO, HF.out]) (by decide) (by decide) (by have hM := Mod.refl [] w; (repeat (first | assumption | refine Mod.alloc ?_ _ | refine Mod.drew ?_ | refine Mod.drewN ?_ _ | refine Mod.setCell ?_ (by first | (simp; done) | (simp; omega)) _)))
  subst hp
  go_enter Tryz.func214, Tryz.ntmps214
  go_wp2_with fail
  refine (within_walk _ 0).mono ?_
  rintro e X ⟨rfl, rfl⟩
  go_wp2_with fail
  refine (within_walk _ 0).mono ?_
  rintro e X ⟨rfl, rfl⟩
  go_wp2
  refine ret_tmps3 Tryz.results214 rfl ?_
  exact opt_yes ⟨#[115, 110, 97, 112]⟩ ⟨#[]⟩ (by simp [okO, z40]) (fun c => by simp [operatedL, wSnap]) (by decide) (by decide) (by have hM := Mod.refl [] w; (repeat (first | assumption | refine Mod.alloc ?_ _ | refine Mod.drew ?_ | refine Mod.drewN ?_ _ | refine Mod.setCell ?_ (by first | (simp; done) | (simp; omega)) _)))
set_option maxRecDepth 100000 in
set_option maxHeartbeats 8000000 in
theorem optext_none (w : World) (k : Int) (hk : k ≠ 1 ∧ k ≠ 2 ∧ k ≠ 3 ∧ k ≠ 4 ∧ k ≠ 5 ∧ k ≠ 6) (l : List Wr) (b : Bool) (y t : Bs) (n p : Int) (wv : Value) (hw : SeenWrs w wv l) (hnice : OpNice ⟨k, l, b, y, t, n, p⟩) :
    Calls Tryz.prog 214 #[.agg #[.int .i64 k, wv, .bool b, .string ⟨y.toArray⟩, .string ⟨t.toArray⟩, .int .i64 n, .int .i64 p]] w (OpTPost w ⟨k, l, b, y, t, n, p⟩) := by
  have HS := Lib.hid (And.intro hw hnice)
  obtain ⟨A, c, rfl, _⟩ := hw
  have z40 := z40
  have HK := Lib.hid hk
  have k1 : (k == 1) = false := by rw [beq_eq_false_iff_ne]; exact hk.1
  have k2 : (k == 2) = false := by rw [beq_eq_false_iff_ne]; exact hk.2.1
  have k3 : (k == 3) = false := by rw [beq_eq_false_iff_ne]; exact hk.2.2.1
  have k4 : (k == 4) = false := by rw [beq_eq_false_iff_ne]; exact hk.2.2.2.1
  have k5 : (k == 5) = false := by rw [beq_eq_false_iff_ne]; exact hk.2.2.2.2.1
  have k6 : (k == 6) = false := by rw [beq_eq_false_iff_ne]; exact hk.2.2.2.2.2
  have m1 : (k != 1) = true := by rw [bne_iff_ne]; exact hk.1
  clear hk
  by_cases hl : l = []
  rotate_left
  · have hb : (0 : Int) < (l.length : Int) := by
      have := List.length_pos_iff.2 hl
      omega
    have HL := Lib.hid hl
    clear hl
    obtain ⟨nl, hnl⟩ : ∃ nl, nl = l.length := ⟨_, rfl⟩
    rw [← hnl] at hb ⊢
    clear hnl
    go_enter Tryz.func214, Tryz.ntmps214
    go_wp2
    refine ret_tmps3 Tryz.results214 rfl ?_
    exact opt_no ⟨#[]⟩ ⟨#[]⟩ (by simp [okO, HL.out, HK.out]) (by decide) (by decide) (by have hM := Mod.refl [] w; (repeat (first | assumption | refine Mod.alloc ?_ _ | refine Mod.drew ?_ | refine Mod.drewN ?_ _ | refine Mod.setCell ?_ (by first | (simp; done) | (simp; omega)) _)))
  subst hl
  go_enter Tryz.func214, Tryz.ntmps214
  go_wp2
  refine ret_tmps3 Tryz.results214 rfl ?_
  exact opt_no ⟨#[]⟩ ⟨#[]⟩ (by simp [okO, HK.out]) (by decide) (by decide) (by have hM := Mod.refl [] w; (repeat (first | assumption | refine Mod.alloc ?_ _ | refine Mod.drew ?_ | refine Mod.drewN ?_ _ | refine Mod.setCell ?_ (by first | (simp; done) | (simp; omega)) _)))
set_option maxRecDepth 100000 in
set_option maxHeartbeats 8000000 in
theorem optext_release (w : World) (l : List Wr) (b : Bool) (y t : Bs) (n p : Int) (wv : Value) (hw : SeenWrs w wv l) (hnice : OpNice ⟨6, l, b, y, t, n, p⟩) :
    Calls Tryz.prog 214 #[.agg #[.int .i64 6, wv, .bool b, .string ⟨y.toArray⟩, .string ⟨t.toArray⟩, .int .i64 n, .int .i64 p]] w (OpTPost w ⟨6, l, b, y, t, n, p⟩) := by
  have HS := Lib.hid (And.intro hw hnice)
  obtain ⟨A, c, rfl, _⟩ := hw
  have z40 := z40
  have hpI : I64 p := hnice.2.2.2.2.2
  obtain ⟨DP, hDP⟩ : ∃ DP : ByteArray, DP.data.toList = Go.Lib.itoa p := ⟨⟨(Go.Lib.itoa p).toArray⟩, rfl⟩
  have hDPz : DP.size ≤ 20 := by rw [Lib.size_eq, hDP]; exact itoa_le p hpI
  have HDP := Lib.hid (show ∀ X : World, Calls Tryz.prog 215 #[.int .i64 p] X fun e w' => e = .returned (.string DP) ∧ Mod [] X w' from fun X => by
    refine (digits_walk X p hpI).mono ?_
    rintro e w' ⟨rfl, hm⟩
    exact ⟨by rw [str_is hDP], hm⟩)
  have HEDP := Lib.hid hDP
  clear hDP
  have HB := Lib.hid (show Blk ((w.alloc (.cells #[.int .i64 6, .slice A l.length c, .bool b, .string ⟨y.toArray⟩, .string ⟨t.toArray⟩, .int .i64 n, .int .i64 p] 67)).alloc (.cells #[.int .i64 6, .slice none 0 0, .bool false, .string ⟨#[]⟩, .string ⟨#[]⟩, .int .i64 0, .int .i64 0] 67)) w.heap.size 67 #[.int .i64 6, .slice A l.length c, .bool b, .string ⟨y.toArray⟩, .string ⟨t.toArray⟩, .int .i64 n, .int .i64 p] ∧ Blk ((w.alloc (.cells #[.int .i64 6, .slice A l.length c, .bool b, .string ⟨y.toArray⟩, .string ⟨t.toArray⟩, .int .i64 n, .int .i64 p] 67)).alloc (.cells #[.int .i64 6, .slice none 0 0, .bool false, .string ⟨#[]⟩, .string ⟨#[]⟩, .int .i64 0, .int .i64 0] 67)) (w.heap.size + 1) 67 #[.int .i64 6, .slice none 0 0, .bool false, .string ⟨#[]⟩, .string ⟨#[]⟩, .int .i64 0, .int .i64 0] from ⟨(Blk.new _ _ _).alloc _, Blk.newAt _ _ _ (by simp)⟩)
  go_enter Tryz.func214, Tryz.ntmps214
  go_wp2_with fail
  refine (HDP.out _).mono ?_
  rintro e w2 ⟨rfl, hm2⟩
  have HM2 := Lib.hid ((((Mod.refl [] w).alloc _).alloc _).trans hm2)
  have hb1 := hm2.blk HB.out.1 (by simp)
  have hb2 := hm2.blk HB.out.2 (by simp)
  have HM2b := Lib.hid (And.intro hb1 hb2)
  clear hm2
  have x0 := hb1.cell 0
  have x1 := hb1.cell 1
  have x2 := hb1.cell 2
  have x3 := hb1.cell 3
  have x4 := hb1.cell 4
  have x5 := hb1.cell 5
  have x6 := hb1.cell 6
  have xf0 := hb1.frozen 0
  have xf1 := hb1.frozen 1
  have xf2 := hb1.frozen 2
  have xf3 := hb1.frozen 3
  have xf4 := hb1.frozen 4
  have xf5 := hb1.frozen 5
  have xf6 := hb1.frozen 6
  simp at x0 x1 x2 x3 x4 x5 x6
  have z0 := hb2.cell 0
  have z1 := hb2.cell 1
  have z2 := hb2.cell 2
  have z3 := hb2.cell 3
  have z4 := hb2.cell 4
  have z5 := hb2.cell 5
  have z6 := hb2.cell 6
  have zf0 := hb2.frozen 0
  have zf1 := hb2.frozen 1
  have zf2 := hb2.frozen 2
  have zf3 := hb2.frozen 3
  have zf4 := hb2.frozen 4
  have zf5 := hb2.frozen 5
  have zf6 := hb2.frozen 6
  simp at z0 z1 z2 z3 z4 z5 z6
  clear hb1 hb2
  by_cases hl : l = []
  rotate_left
  · have hb : (0 : Int) < (l.length : Int) := by
      have := List.length_pos_iff.2 hl
      omega
    have HL := Lib.hid hl
    clear hl
    obtain ⟨nl, hnl⟩ : ∃ nl, nl = l.length := ⟨_, rfl⟩
    rw [← hnl] at x1 hb
    clear hnl
    go_wp2
    refine ret_tmps3 Tryz.results214 rfl ?_
    exact opt_no ⟨#[]⟩ ⟨#[]⟩ (by simp [okO, HL.out]) (by decide) (by decide) (by have hM := HM2.out; (repeat (first | assumption | refine Mod.alloc ?_ _ | refine Mod.drew ?_ | refine Mod.drewN ?_ _ | refine Mod.setCell ?_ (by first | (simp; done) | (simp; omega)) _)))
  have HL := Lib.hid hl
  have hl0 : l.length = 0 := by rw [hl]; rfl
  rw [hl0] at x1
  clear hl hl0
  rcases b with _ | _
  rotate_left
  · go_wp2
    refine ret_tmps3 Tryz.results214 rfl ?_
    exact opt_no ⟨#[114, 101, 108, 101, 97, 115, 101]⟩ ((⟨#[32]⟩ : ByteArray) ++ DP) (by simp [okO]) (by decide) (by rw [Lib.size_eq, app_str, List.length_append, ← Lib.size_eq DP]; simp; omega) (by have hM := HM2.out; (repeat (first | assumption | refine Mod.alloc ?_ _ | refine Mod.drew ?_ | refine Mod.drewN ?_ _ | refine Mod.setCell ?_ (by first | (simp; done) | (simp; omega)) _)))
  by_cases hy : y = []
  rotate_left
  · have hb : ((⟨y.toArray⟩ : ByteArray).toList == []) = false := by
      rw [beq_eq_false_iff_ne, Lib.toList_data]; exact hy
    have HF := Lib.hid hy
    clear hy
    go_wp2
    refine ret_tmps3 Tryz.results214 rfl ?_
    exact opt_no ⟨#[114, 101, 108, 101, 97, 115, 101]⟩ ((⟨#[32]⟩ : ByteArray) ++ DP) (by simp [okO, HF.out]) (by decide) (by rw [Lib.size_eq, app_str, List.length_append, ← Lib.size_eq DP]; simp; omega) (by have hM := HM2.out; (repeat (first | assumption | refine Mod.alloc ?_ _ | refine Mod.drew ?_ | refine Mod.drewN ?_ _ | refine Mod.setCell ?_ (by first | (simp; done) | (simp; omega)) _)))
  rw [hy] at x3
  have HFy := Lib.hid hy
  clear hy
  by_cases ht : t = []
  rotate_left
  · have hb : ((⟨t.toArray⟩ : ByteArray).toList == []) = false := by
      rw [beq_eq_false_iff_ne, Lib.toList_data]; exact ht
    have HF := Lib.hid ht
    clear ht
    go_wp2
    refine ret_tmps3 Tryz.results214 rfl ?_
    exact opt_no ⟨#[114, 101, 108, 101, 97, 115, 101]⟩ ((⟨#[32]⟩ : ByteArray) ++ DP) (by simp [okO, HF.out]) (by decide) (by rw [Lib.size_eq, app_str, List.length_append, ← Lib.size_eq DP]; simp; omega) (by have hM := HM2.out; (repeat (first | assumption | refine Mod.alloc ?_ _ | refine Mod.drew ?_ | refine Mod.drewN ?_ _ | refine Mod.setCell ?_ (by first | (simp; done) | (simp; omega)) _)))
  rw [ht] at x4
  have HFt := Lib.hid ht
  clear ht
  by_cases hn : n = 0
  rotate_left
  · have hb : (n == 0) = false := by rw [beq_eq_false_iff_ne]; exact hn
    have HF := Lib.hid hn
    clear hn
    go_wp2
    refine ret_tmps3 Tryz.results214 rfl ?_
    exact opt_no ⟨#[114, 101, 108, 101, 97, 115, 101]⟩ ((⟨#[32]⟩ : ByteArray) ++ DP) (by simp [okO, HF.out]) (by decide) (by rw [Lib.size_eq, app_str, List.length_append, ← Lib.size_eq DP]; simp; omega) (by have hM := HM2.out; (repeat (first | assumption | refine Mod.alloc ?_ _ | refine Mod.drew ?_ | refine Mod.drewN ?_ _ | refine Mod.setCell ?_ (by first | (simp; done) | (simp; omega)) _)))
  rw [hn] at x5
  have HFn := Lib.hid hn
  clear hn
  go_wp2_with fail
  refine (within_walk _ 0).mono ?_
  rintro e X ⟨rfl, rfl⟩
  rcases hp : in40 p with _ | _
  · go_wp2_with fail
    refine (within_walk _ p).mono ?_
    rintro e X ⟨rfl, rfl⟩
    go_wp2
    refine ret_tmps3 Tryz.results214 rfl ?_
    exact opt_no ⟨#[114, 101, 108, 101, 97, 115, 101]⟩ ((⟨#[32]⟩ : ByteArray) ++ DP) (by simp [okO, hp]) (by decide) (by rw [Lib.size_eq, app_str, List.length_append, ← Lib.size_eq DP]; simp; omega) (by have hM := HM2.out; (repeat (first | assumption | refine Mod.alloc ?_ _ | refine Mod.drew ?_ | refine Mod.drewN ?_ _ | refine Mod.setCell ?_ (by first | (simp; done) | (simp; omega)) _)))
  go_wp2_with fail
  refine (within_walk _ p).mono ?_
  rintro e X ⟨rfl, rfl⟩
  go_wp2
  refine ret_tmps3 Tryz.results214 rfl ?_
  exact opt_yes ⟨#[114, 101, 108, 101, 97, 115, 101]⟩ ((⟨#[32]⟩ : ByteArray) ++ DP) (by simp [okO, hp, z40, HL.out, HFy.out, HFt.out, HFn.out]) (fun c => by simp [operatedL, wRelease, HEDP.out]) (by decide) (by rw [Lib.size_eq, app_str, List.length_append, ← Lib.size_eq DP]; simp; omega) (by have hM := HM2.out; (repeat (first | assumption | refine Mod.alloc ?_ _ | refine Mod.drew ?_ | refine Mod.drewN ?_ _ | refine Mod.setCell ?_ (by first | (simp; done) | (simp; omega)) _)))
set_option maxRecDepth 100000 in
set_option maxHeartbeats 8000000 in
theorem optext_get (w : World) (l : List Wr) (b : Bool) (y t : Bs) (n p : Int) (wv : Value) (hw : SeenWrs w wv l) (hnice : OpNice ⟨3, l, b, y, t, n, p⟩) :
    Calls Tryz.prog 214 #[.agg #[.int .i64 3, wv, .bool b, .string ⟨y.toArray⟩, .string ⟨t.toArray⟩, .int .i64 n, .int .i64 p]] w (OpTPost w ⟨3, l, b, y, t, n, p⟩) := by
  have HS := Lib.hid (And.intro hw hnice)
  obtain ⟨A, c, rfl, _⟩ := hw
  have z40 := z40
  obtain ⟨DY, hDY⟩ : ∃ DY : ByteArray, DY.data.toList = quotingL y := ⟨⟨(quotingL y).toArray⟩, rfl⟩
  have hDYz : DY.size ≤ 280002 := by rw [Lib.size_eq, hDY]; exact quoting_le2 y (hnice.1)
  have HDY := Lib.hid (show ∀ X : World, Calls Tryz.prog 233 #[.string ⟨y.toArray⟩] X fun e w' => e = .returned (.string DY) ∧ Mod [] X w' from fun X => by
    refine (rquote_walk X ⟨y.toArray⟩ (by rw [Lib.size_eq]; have h70 : y.length ≤ 70000 := hnice.1; simp; omega)).mono ?_
    rintro e w' ⟨rfl, hm⟩
    exact ⟨by rw [str_is hDY], hm⟩)
  have HEDY := Lib.hid hDY
  clear hDY
  have hpI : I64 p := hnice.2.2.2.2.2
  obtain ⟨DP, hDP⟩ : ∃ DP : ByteArray, DP.data.toList = Go.Lib.itoa p := ⟨⟨(Go.Lib.itoa p).toArray⟩, rfl⟩
  have hDPz : DP.size ≤ 20 := by rw [Lib.size_eq, hDP]; exact itoa_le p hpI
  have HDP := Lib.hid (show ∀ X : World, Calls Tryz.prog 215 #[.int .i64 p] X fun e w' => e = .returned (.string DP) ∧ Mod [] X w' from fun X => by
    refine (digits_walk X p hpI).mono ?_
    rintro e w' ⟨rfl, hm⟩
    exact ⟨by rw [str_is hDP], hm⟩)
  have HEDP := Lib.hid hDP
  clear hDP
  have HB := Lib.hid (show Blk ((w.alloc (.cells #[.int .i64 3, .slice A l.length c, .bool b, .string ⟨y.toArray⟩, .string ⟨t.toArray⟩, .int .i64 n, .int .i64 p] 67)).alloc (.cells #[.int .i64 3, .slice none 0 0, .bool false, .string ⟨#[]⟩, .string ⟨#[]⟩, .int .i64 0, .int .i64 0] 67)) w.heap.size 67 #[.int .i64 3, .slice A l.length c, .bool b, .string ⟨y.toArray⟩, .string ⟨t.toArray⟩, .int .i64 n, .int .i64 p] ∧ Blk ((w.alloc (.cells #[.int .i64 3, .slice A l.length c, .bool b, .string ⟨y.toArray⟩, .string ⟨t.toArray⟩, .int .i64 n, .int .i64 p] 67)).alloc (.cells #[.int .i64 3, .slice none 0 0, .bool false, .string ⟨#[]⟩, .string ⟨#[]⟩, .int .i64 0, .int .i64 0] 67)) (w.heap.size + 1) 67 #[.int .i64 3, .slice none 0 0, .bool false, .string ⟨#[]⟩, .string ⟨#[]⟩, .int .i64 0, .int .i64 0] from ⟨(Blk.new _ _ _).alloc _, Blk.newAt _ _ _ (by simp)⟩)
  go_enter Tryz.func214, Tryz.ntmps214
  go_wp2_with fail
  refine (HDY.out _).mono ?_
  rintro e w2 ⟨rfl, hm2⟩
  have HM2 := Lib.hid ((((Mod.refl [] w).alloc _).alloc _).trans hm2)
  have hb1 := hm2.blk HB.out.1 (by simp)
  have hb2 := hm2.blk HB.out.2 (by simp)
  have HM2b := Lib.hid (And.intro hb1 hb2)
  clear hm2
  have x0 := hb1.cell 0
  have x1 := hb1.cell 1
  have x2 := hb1.cell 2
  have x3 := hb1.cell 3
  have x4 := hb1.cell 4
  have x5 := hb1.cell 5
  have x6 := hb1.cell 6
  have xf0 := hb1.frozen 0
  have xf1 := hb1.frozen 1
  have xf2 := hb1.frozen 2
  have xf3 := hb1.frozen 3
  have xf4 := hb1.frozen 4
  have xf5 := hb1.frozen 5
  have xf6 := hb1.frozen 6
  simp at x0 x1 x2 x3 x4 x5 x6
  have z0 := hb2.cell 0
  have z1 := hb2.cell 1
  have z2 := hb2.cell 2
  have z3 := hb2.cell 3
  have z4 := hb2.cell 4
  have z5 := hb2.cell 5
  have z6 := hb2.cell 6
  have zf0 := hb2.frozen 0
  have zf1 := hb2.frozen 1
  have zf2 := hb2.frozen 2
  have zf3 := hb2.frozen 3
  have zf4 := hb2.frozen 4
  have zf5 := hb2.frozen 5
  have zf6 := hb2.frozen 6
  simp at z0 z1 z2 z3 z4 z5 z6
  clear hb1 hb2
  by_cases hpz : p = 0
  · rw [hpz] at x6
    have HPZ := Lib.hid hpz
    clear hpz
    by_cases hl : l = []
    rotate_left
    · have hb : (0 : Int) < (l.length : Int) := by
        have := List.length_pos_iff.2 hl
        omega
      have HL := Lib.hid hl
      clear hl
      obtain ⟨nl, hnl⟩ : ∃ nl, nl = l.length := ⟨_, rfl⟩
      rw [← hnl] at x1 hb
      clear hnl
      go_wp2
      refine ret_tmps3 Tryz.results214 rfl ?_
      exact opt_no ⟨#[]⟩ ⟨#[]⟩ (by simp [okO, HL.out]) (by decide) (by decide) (by have hM := HM2.out; (repeat (first | assumption | refine Mod.alloc ?_ _ | refine Mod.drew ?_ | refine Mod.drewN ?_ _ | refine Mod.setCell ?_ (by first | (simp; done) | (simp; omega)) _)))
    have HL := Lib.hid hl
    have hl0 : l.length = 0 := by rw [hl]; rfl
    rw [hl0] at x1
    clear hl hl0
    rcases b with _ | _
    rotate_left
    · go_wp2
      refine ret_tmps3 Tryz.results214 rfl ?_
      exact opt_no ⟨#[103, 101, 116]⟩ ((⟨#[32]⟩ : ByteArray) ++ DY) (by simp [okO]) (by decide) (by rw [Lib.size_eq]; simp only [app_str, List.length_append, ← Lib.size_eq]; simp; omega) (by have hM := HM2.out; (repeat (first | assumption | refine Mod.alloc ?_ _ | refine Mod.drew ?_ | refine Mod.drewN ?_ _ | refine Mod.setCell ?_ (by first | (simp; done) | (simp; omega)) _)))
    by_cases ht : t = []
    rotate_left
    · have hb : ((⟨t.toArray⟩ : ByteArray).toList == []) = false := by
        rw [beq_eq_false_iff_ne, Lib.toList_data]; exact ht
      have HF := Lib.hid ht
      clear ht
      go_wp2
      refine ret_tmps3 Tryz.results214 rfl ?_
      exact opt_no ⟨#[103, 101, 116]⟩ ((⟨#[32]⟩ : ByteArray) ++ DY) (by simp [okO, HF.out]) (by decide) (by rw [Lib.size_eq]; simp only [app_str, List.length_append, ← Lib.size_eq]; simp; omega) (by have hM := HM2.out; (repeat (first | assumption | refine Mod.alloc ?_ _ | refine Mod.drew ?_ | refine Mod.drewN ?_ _ | refine Mod.setCell ?_ (by first | (simp; done) | (simp; omega)) _)))
    rw [ht] at x4
    have HFt := Lib.hid ht
    clear ht
    by_cases hn : n = 0
    rotate_left
    · have hb : (n == 0) = false := by rw [beq_eq_false_iff_ne]; exact hn
      have HF := Lib.hid hn
      clear hn
      go_wp2
      refine ret_tmps3 Tryz.results214 rfl ?_
      exact opt_no ⟨#[103, 101, 116]⟩ ((⟨#[32]⟩ : ByteArray) ++ DY) (by simp [okO, HF.out]) (by decide) (by rw [Lib.size_eq]; simp only [app_str, List.length_append, ← Lib.size_eq]; simp; omega) (by have hM := HM2.out; (repeat (first | assumption | refine Mod.alloc ?_ _ | refine Mod.drew ?_ | refine Mod.drewN ?_ _ | refine Mod.setCell ?_ (by first | (simp; done) | (simp; omega)) _)))
    rw [hn] at x5
    have HFn := Lib.hid hn
    clear hn
    go_wp2_with fail
    refine (within_walk _ 0).mono ?_
    rintro e X ⟨rfl, rfl⟩
    go_wp2_with fail
    refine (within_walk _ 0).mono ?_
    rintro e X ⟨rfl, rfl⟩
    go_wp2
    refine ret_tmps3 Tryz.results214 rfl ?_
    exact opt_yes ⟨#[103, 101, 116]⟩ ((⟨#[32]⟩ : ByteArray) ++ DY) (by simp [okO, z40, HL.out, HFt.out, HFn.out, HPZ.out]) (fun c => by simp [operatedL, snapS, HPZ.out, wGet, HEDY.out]) (by decide) (by rw [Lib.size_eq]; simp only [app_str, List.length_append, ← Lib.size_eq]; simp; omega) (by have hM := HM2.out; (repeat (first | assumption | refine Mod.alloc ?_ _ | refine Mod.drew ?_ | refine Mod.drewN ?_ _ | refine Mod.setCell ?_ (by first | (simp; done) | (simp; omega)) _)))
  have hpb : (p == 0) = false := by rw [beq_eq_false_iff_ne]; exact hpz
  have HPZ := Lib.hid hpz
  clear hpz
  go_wp2_with fail
  refine (HDP.out _).mono ?_
  rintro e w5 ⟨rfl, hm5⟩
  have HM5 := Lib.hid ((HM2.out.setCell (p := ⟨w.heap.size + 1, 3, none⟩) (.inr (by simp)) (.string ⟨y.toArray⟩)).trans hm5)
  have hb1 := hm5.blk (HM2b.out.1.far (by simp) _) (by simp)
  have hb2 := hm5.blk (HM2b.out.2.set_ 3 (.string ⟨y.toArray⟩)) (by simp)
  clear hm5
  clear x0 x1 x2 x3 x4 x5 x6 xf0 xf1 xf2 xf3 xf4 xf5 xf6
  clear z0 z1 z2 z3 z4 z5 z6 zf0 zf1 zf2 zf3 zf4 zf5 zf6
  have x0 := hb1.cell 0
  have x1 := hb1.cell 1
  have x2 := hb1.cell 2
  have x3 := hb1.cell 3
  have x4 := hb1.cell 4
  have x5 := hb1.cell 5
  have x6 := hb1.cell 6
  have xf0 := hb1.frozen 0
  have xf1 := hb1.frozen 1
  have xf2 := hb1.frozen 2
  have xf3 := hb1.frozen 3
  have xf4 := hb1.frozen 4
  have xf5 := hb1.frozen 5
  have xf6 := hb1.frozen 6
  simp at x0 x1 x2 x3 x4 x5 x6
  have z0 := hb2.cell 0
  have z1 := hb2.cell 1
  have z2 := hb2.cell 2
  have z3 := hb2.cell 3
  have z4 := hb2.cell 4
  have z5 := hb2.cell 5
  have z6 := hb2.cell 6
  have zf0 := hb2.frozen 0
  have zf1 := hb2.frozen 1
  have zf2 := hb2.frozen 2
  have zf3 := hb2.frozen 3
  have zf4 := hb2.frozen 4
  have zf5 := hb2.frozen 5
  have zf6 := hb2.frozen 6
  simp at z0 z1 z2 z3 z4 z5 z6
  clear hb1 hb2
  by_cases hl : l = []
  rotate_left
  · have hb : (0 : Int) < (l.length : Int) := by
      have := List.length_pos_iff.2 hl
      omega
    have HL := Lib.hid hl
    clear hl
    obtain ⟨nl, hnl⟩ : ∃ nl, nl = l.length := ⟨_, rfl⟩
    rw [← hnl] at x1 hb
    clear hnl
    go_wp2
    refine ret_tmps3 Tryz.results214 rfl ?_
    exact opt_no ⟨#[]⟩ ⟨#[]⟩ (by simp [okO, HL.out]) (by decide) (by decide) (by have hM := HM5.out; (repeat (first | assumption | refine Mod.alloc ?_ _ | refine Mod.drew ?_ | refine Mod.drewN ?_ _ | refine Mod.setCell ?_ (by first | (simp; done) | (simp; omega)) _)))
  have HL := Lib.hid hl
  have hl0 : l.length = 0 := by rw [hl]; rfl
  rw [hl0] at x1
  clear hl hl0
  rcases b with _ | _
  rotate_left
  · go_wp2
    refine ret_tmps3 Tryz.results214 rfl ?_
    exact opt_no ⟨#[103, 101, 116]⟩ ((⟨#[32]⟩ : ByteArray) ++ DY ++ (⟨#[32, 115, 110, 97, 112, 32]⟩ : ByteArray) ++ DP) (by simp [okO]) (by decide) (by rw [Lib.size_eq]; simp only [app_str, List.length_append, ← Lib.size_eq]; simp; omega) (by have hM := HM5.out; (repeat (first | assumption | refine Mod.alloc ?_ _ | refine Mod.drew ?_ | refine Mod.drewN ?_ _ | refine Mod.setCell ?_ (by first | (simp; done) | (simp; omega)) _)))
  by_cases ht : t = []
  rotate_left
  · have hb : ((⟨t.toArray⟩ : ByteArray).toList == []) = false := by
      rw [beq_eq_false_iff_ne, Lib.toList_data]; exact ht
    have HF := Lib.hid ht
    clear ht
    go_wp2
    refine ret_tmps3 Tryz.results214 rfl ?_
    exact opt_no ⟨#[103, 101, 116]⟩ ((⟨#[32]⟩ : ByteArray) ++ DY ++ (⟨#[32, 115, 110, 97, 112, 32]⟩ : ByteArray) ++ DP) (by simp [okO, HF.out]) (by decide) (by rw [Lib.size_eq]; simp only [app_str, List.length_append, ← Lib.size_eq]; simp; omega) (by have hM := HM5.out; (repeat (first | assumption | refine Mod.alloc ?_ _ | refine Mod.drew ?_ | refine Mod.drewN ?_ _ | refine Mod.setCell ?_ (by first | (simp; done) | (simp; omega)) _)))
  rw [ht] at x4
  have HFt := Lib.hid ht
  clear ht
  by_cases hn : n = 0
  rotate_left
  · have hb : (n == 0) = false := by rw [beq_eq_false_iff_ne]; exact hn
    have HF := Lib.hid hn
    clear hn
    go_wp2
    refine ret_tmps3 Tryz.results214 rfl ?_
    exact opt_no ⟨#[103, 101, 116]⟩ ((⟨#[32]⟩ : ByteArray) ++ DY ++ (⟨#[32, 115, 110, 97, 112, 32]⟩ : ByteArray) ++ DP) (by simp [okO, HF.out]) (by decide) (by rw [Lib.size_eq]; simp only [app_str, List.length_append, ← Lib.size_eq]; simp; omega) (by have hM := HM5.out; (repeat (first | assumption | refine Mod.alloc ?_ _ | refine Mod.drew ?_ | refine Mod.drewN ?_ _ | refine Mod.setCell ?_ (by first | (simp; done) | (simp; omega)) _)))
  rw [hn] at x5
  have HFn := Lib.hid hn
  clear hn
  go_wp2_with fail
  refine (within_walk _ 0).mono ?_
  rintro e X ⟨rfl, rfl⟩
  rcases hp : in40 p with _ | _
  · go_wp2_with fail
    refine (within_walk _ p).mono ?_
    rintro e X ⟨rfl, rfl⟩
    go_wp2
    refine ret_tmps3 Tryz.results214 rfl ?_
    exact opt_no ⟨#[103, 101, 116]⟩ ((⟨#[32]⟩ : ByteArray) ++ DY ++ (⟨#[32, 115, 110, 97, 112, 32]⟩ : ByteArray) ++ DP) (by simp [okO, hp]) (by decide) (by rw [Lib.size_eq]; simp only [app_str, List.length_append, ← Lib.size_eq]; simp; omega) (by have hM := HM5.out; (repeat (first | assumption | refine Mod.alloc ?_ _ | refine Mod.drew ?_ | refine Mod.drewN ?_ _ | refine Mod.setCell ?_ (by first | (simp; done) | (simp; omega)) _)))
  go_wp2_with fail
  refine (within_walk _ p).mono ?_
  rintro e X ⟨rfl, rfl⟩
  go_wp2
  refine ret_tmps3 Tryz.results214 rfl ?_
  exact opt_yes ⟨#[103, 101, 116]⟩ ((⟨#[32]⟩ : ByteArray) ++ DY ++ (⟨#[32, 115, 110, 97, 112, 32]⟩ : ByteArray) ++ DP) (by simp [okO, hp, z40, HL.out, HFt.out, HFn.out]) (fun c => by simp [operatedL, snapS, HPZ.out, wGet, HEDP.out, HEDY.out]) (by decide) (by rw [Lib.size_eq]; simp only [app_str, List.length_append, ← Lib.size_eq]; simp; omega) (by have hM := HM5.out; (repeat (first | assumption | refine Mod.alloc ?_ _ | refine Mod.drew ?_ | refine Mod.drewN ?_ _ | refine Mod.setCell ?_ (by first | (simp; done) | (simp; omega)) _)))
end Go.Proofs.YtjieelmbgfnllaaGreatDoor

namespace Go.Proofs.YtjieelmbgfnllaaGreatDoor
open Go.RowKit Scr

set_option maxRecDepth 100000 in
set_option maxHeartbeats 8000000 in
theorem optext_scan (w : World) (l : List Wr) (b : Bool) (y t : Bs) (n p : Int) (wv : Value) (hw : SeenWrs w wv l) (hnice : OpNice ⟨4, l, b, y, t, n, p⟩) :
    Calls Tryz.prog 214 #[.agg #[.int .i64 4, wv, .bool b, .string ⟨y.toArray⟩, .string ⟨t.toArray⟩, .int .i64 n, .int .i64 p]] w (OpTPost w ⟨4, l, b, y, t, n, p⟩) := by
  have HS := Lib.hid (And.intro hw hnice)
  obtain ⟨A, c, rfl, _⟩ := hw
  have z40 := z40
  obtain ⟨DY, hDY⟩ : ∃ DY : ByteArray, DY.data.toList = quotingL y := ⟨⟨(quotingL y).toArray⟩, rfl⟩
  have hDYz : DY.size ≤ 280002 := by rw [Lib.size_eq, hDY]; exact quoting_le2 y (hnice.1)
  have HDY := Lib.hid (show ∀ X : World, Calls Tryz.prog 233 #[.string ⟨y.toArray⟩] X fun e w' => e = .returned (.string DY) ∧ Mod [] X w' from fun X => by
    refine (rquote_walk X ⟨y.toArray⟩ (by rw [Lib.size_eq]; have h70 : y.length ≤ 70000 := hnice.1; simp; omega)).mono ?_
    rintro e w' ⟨rfl, hm⟩
    exact ⟨by rw [str_is hDY], hm⟩)
  have HEDY := Lib.hid hDY
  clear hDY
  have hpI : I64 p := hnice.2.2.2.2.2
  obtain ⟨DP, hDP⟩ : ∃ DP : ByteArray, DP.data.toList = Go.Lib.itoa p := ⟨⟨(Go.Lib.itoa p).toArray⟩, rfl⟩
  have hDPz : DP.size ≤ 20 := by rw [Lib.size_eq, hDP]; exact itoa_le p hpI
  have HDP := Lib.hid (show ∀ X : World, Calls Tryz.prog 215 #[.int .i64 p] X fun e w' => e = .returned (.string DP) ∧ Mod [] X w' from fun X => by
    refine (digits_walk X p hpI).mono ?_
    rintro e w' ⟨rfl, hm⟩
    exact ⟨by rw [str_is hDP], hm⟩)
  have HEDP := Lib.hid hDP
  clear hDP
  obtain ⟨DT, hDT⟩ : ∃ DT : ByteArray, DT.data.toList = quotingL t := ⟨⟨(quotingL t).toArray⟩, rfl⟩
  have hDTz : DT.size ≤ 280002 := by rw [Lib.size_eq, hDT]; exact quoting_le2 t (hnice.2.1)
  have HDT := Lib.hid (show ∀ X : World, Calls Tryz.prog 233 #[.string ⟨t.toArray⟩] X fun e w' => e = .returned (.string DT) ∧ Mod [] X w' from fun X => by
    refine (rquote_walk X ⟨t.toArray⟩ (by rw [Lib.size_eq]; have h70 : t.length ≤ 70000 := hnice.2.1; simp; omega)).mono ?_
    rintro e w' ⟨rfl, hm⟩
    exact ⟨by rw [str_is hDT], hm⟩)
  have HEDT := Lib.hid hDT
  clear hDT
  have hnI : I64 n := hnice.2.2.2.2.1
  obtain ⟨DN, hDN⟩ : ∃ DN : ByteArray, DN.data.toList = Go.Lib.itoa n := ⟨⟨(Go.Lib.itoa n).toArray⟩, rfl⟩
  have hDNz : DN.size ≤ 20 := by rw [Lib.size_eq, hDN]; exact itoa_le n hnI
  have HDN := Lib.hid (show ∀ X : World, Calls Tryz.prog 215 #[.int .i64 n] X fun e w' => e = .returned (.string DN) ∧ Mod [] X w' from fun X => by
    refine (digits_walk X n hnI).mono ?_
    rintro e w' ⟨rfl, hm⟩
    exact ⟨by rw [str_is hDN], hm⟩)
  have HEDN := Lib.hid hDN
  clear hDN
  have HB := Lib.hid (show Blk ((w.alloc (.cells #[.int .i64 4, .slice A l.length c, .bool b, .string ⟨y.toArray⟩, .string ⟨t.toArray⟩, .int .i64 n, .int .i64 p] 67)).alloc (.cells #[.int .i64 4, .slice none 0 0, .bool false, .string ⟨#[]⟩, .string ⟨#[]⟩, .int .i64 0, .int .i64 0] 67)) w.heap.size 67 #[.int .i64 4, .slice A l.length c, .bool b, .string ⟨y.toArray⟩, .string ⟨t.toArray⟩, .int .i64 n, .int .i64 p] ∧ Blk ((w.alloc (.cells #[.int .i64 4, .slice A l.length c, .bool b, .string ⟨y.toArray⟩, .string ⟨t.toArray⟩, .int .i64 n, .int .i64 p] 67)).alloc (.cells #[.int .i64 4, .slice none 0 0, .bool false, .string ⟨#[]⟩, .string ⟨#[]⟩, .int .i64 0, .int .i64 0] 67)) (w.heap.size + 1) 67 #[.int .i64 4, .slice none 0 0, .bool false, .string ⟨#[]⟩, .string ⟨#[]⟩, .int .i64 0, .int .i64 0] from ⟨(Blk.new _ _ _).alloc _, Blk.newAt _ _ _ (by simp)⟩)
  go_enter Tryz.func214, Tryz.ntmps214
  go_wp2_with fail
  refine (HDY.out _).mono ?_
  rintro e w2 ⟨rfl, hm2⟩
  have HM2 := Lib.hid ((((Mod.refl [] w).alloc _).alloc _).trans hm2)
  have hb1 := hm2.blk HB.out.1 (by simp)
  have hb2 := hm2.blk HB.out.2 (by simp)
  have HM2b := Lib.hid (And.intro hb1 hb2)
  clear hm2
  have x0 := hb1.cell 0
  have x1 := hb1.cell 1
  have x2 := hb1.cell 2
  have x3 := hb1.cell 3
  have x4 := hb1.cell 4
  have x5 := hb1.cell 5
  have x6 := hb1.cell 6
  have xf0 := hb1.frozen 0
  have xf1 := hb1.frozen 1
  have xf2 := hb1.frozen 2
  have xf3 := hb1.frozen 3
  have xf4 := hb1.frozen 4
  have xf5 := hb1.frozen 5
  have xf6 := hb1.frozen 6
  simp at x0 x1 x2 x3 x4 x5 x6
  have z0 := hb2.cell 0
  have z1 := hb2.cell 1
  have z2 := hb2.cell 2
  have z3 := hb2.cell 3
  have z4 := hb2.cell 4
  have z5 := hb2.cell 5
  have z6 := hb2.cell 6
  have zf0 := hb2.frozen 0
  have zf1 := hb2.frozen 1
  have zf2 := hb2.frozen 2
  have zf3 := hb2.frozen 3
  have zf4 := hb2.frozen 4
  have zf5 := hb2.frozen 5
  have zf6 := hb2.frozen 6
  simp at z0 z1 z2 z3 z4 z5 z6
  clear hb1 hb2
  have hb3 := (HM2b.out.2.set_ 3 (.string ⟨y.toArray⟩))
  have HR := Lib.hid (show (Mod [] w (w2.setCell ⟨w.heap.size + 1, 3, none⟩ (.string ⟨y.toArray⟩)).drew) ∧ Blk (w2.setCell ⟨w.heap.size + 1, 3, none⟩ (.string ⟨y.toArray⟩)).drew w.heap.size 67 #[.int .i64 4, .slice A l.length c, .bool b, .string ⟨y.toArray⟩, .string ⟨t.toArray⟩, .int .i64 n, .int .i64 p] ∧ Blk (w2.setCell ⟨w.heap.size + 1, 3, none⟩ (.string ⟨y.toArray⟩)).drew (w.heap.size + 1) 67 #[.int .i64 4, .slice none 0 0, .bool false, .string ⟨y.toArray⟩, .string ⟨#[]⟩, .int .i64 0, .int .i64 0] from ⟨(HM2.out.setCell (.inr (by simp)) _).drew, (HM2b.out.1.far (by simp) _).drew, hb3⟩)
  clear hb3
  go_wp2
  refine region_C (fun X => Mod [] w X ∧ Blk X w.heap.size 67 #[.int .i64 4, .slice A l.length c, .bool b, .string ⟨y.toArray⟩, .string ⟨t.toArray⟩, .int .i64 n, .int .i64 p] ∧ Blk X (w.heap.size + 1) 67 #[.int .i64 4, .slice none 0 0, .bool false, .string ⟨y.toArray⟩, .string ⟨#[]⟩, .int .i64 0, .int .i64 0]) (by kernel_rfl) (fun _ _ _ _ _ h => h) (fun hQp => ?_)
  have HC := HR.out
  simp only [List.length_cons, List.length_nil]
  refine anyC_take (i := 0) (v := ?_) (a' := ?_) HC rfl rfl (by kernel_rfl) (by kernel_rfl) (by kernel_rfl) hQp (by rfl) ?_ ?_ ?_
  rotate_left 2
  · intro X hX
    go_simp
    first | rfl | omega | (rw [if_neg (by omega)])
  · simp [Act.put]
    rfl
  refine anyC_take (i := 1) (v := .string ((⟨#[32]⟩ : ByteArray) ++ DY ++ (⟨#[32]⟩ : ByteArray))) (a' := ?_) HC rfl rfl (by kernel_rfl) (by kernel_rfl) (by kernel_rfl) hQp (by rfl) ?_ ?_ ?_
  rotate_left 1
  · intro X hX
    go_simp
    first | rfl | omega | (rw [if_neg (by omega)])
  · simp [Act.put]
    rfl
  refine anyC_take (i := 2) (v := ?_) (a' := ?_) HC rfl rfl (by kernel_rfl) (by kernel_rfl) (by kernel_rfl) hQp (by rfl) ?_ ?_ ?_
  rotate_left 2
  · intro X hX
    go_simp
    first | rfl | omega | (rw [if_neg (by omega)])
  · simp [Act.put]
    rfl
  refine anyC_take (i := 3) (v := ?_) (a' := ?_) HC rfl rfl (by kernel_rfl) (by kernel_rfl) (by kernel_rfl) hQp (by rfl) ?_ ?_ ?_
  rotate_left 2
  · intro X hX
    have hx := hX.2.1.cell 4
    simp at hx
    go_simp
    first | rfl | omega | (rw [if_neg (by omega)])
  · simp [Act.put]
    rfl
  refine anyC_take (i := 7) (v := ?_) (a' := ?_) HC rfl rfl (by kernel_rfl) (by kernel_rfl) (by kernel_rfl) hQp (by rfl) ?_ ?_ ?_
  rotate_left 2
  · intro X hX
    go_simp
    first | rfl | omega | (rw [if_neg (by omega)])
  · simp [Act.put]
    rfl
  refine anyC_take (i := 8) (v := ?_) (a' := ?_) HC rfl rfl (by kernel_rfl) (by kernel_rfl) (by kernel_rfl) hQp (by rfl) ?_ ?_ ?_
  rotate_left 2
  · intro X hX
    have hx := hX.2.1.cell 5
    simp at hx
    go_simp
    first | rfl | omega | (rw [if_neg (by omega)])
  · simp [Act.put]
    rfl
  refine anyC_step (i := 4) (by kernel_rfl) rfl (by rfl) ?_
  unfold Oper.wp
  go_simp
  refine (HDT.out _).mono ?_
  rintro e v4 ⟨rfl, hm4⟩
  replace HC := And.intro (HC.1.trans hm4) (And.intro (hm4.blk HC.2.1 (by simp)) (hm4.blk HC.2.2 (by simp)))
  refine ⟨HC, ?_⟩
  refine anyC_take (i := 5) (v := .string ((⟨#[32]⟩ : ByteArray) ++ DY ++ (⟨#[32]⟩ : ByteArray) ++ DT)) (a' := ?_) HC rfl rfl (by kernel_rfl) (by kernel_rfl) (by kernel_rfl) hQp (by rfl) ?_ ?_ ?_
  rotate_left 1
  · intro X hX
    go_simp
    first | rfl | omega | (rw [if_neg (by omega)])
  · simp [Act.put]
    rfl
  refine anyC_take (i := 6) (v := .string ((⟨#[32]⟩ : ByteArray) ++ DY ++ (⟨#[32]⟩ : ByteArray) ++ DT ++ (⟨#[32]⟩ : ByteArray))) (a' := ?_) HC rfl rfl (by kernel_rfl) (by kernel_rfl) (by kernel_rfl) hQp (by rfl) ?_ ?_ ?_
  rotate_left 1
  · intro X hX
    go_simp
    first | rfl | omega | (rw [if_neg (by omega)])
  · simp [Act.put]
    rfl
  refine anyC_step (i := 9) (by kernel_rfl) rfl (by rfl) ?_
  unfold Oper.wp
  go_simp
  refine (HDN.out _).mono ?_
  rintro e v9 ⟨rfl, hm9⟩
  replace HC := And.intro (HC.1.trans hm9) (And.intro (hm9.blk HC.2.1 (by simp)) (hm9.blk HC.2.2 (by simp)))
  refine ⟨HC, ?_⟩
  refine anyC_take (i := 10) (v := .string ((⟨#[32]⟩ : ByteArray) ++ DY ++ (⟨#[32]⟩ : ByteArray) ++ DT ++ (⟨#[32]⟩ : ByteArray) ++ DN)) (a' := ?_) HC rfl rfl (by kernel_rfl) (by kernel_rfl) (by kernel_rfl) hQp (by rfl) ?_ ?_ ?_
  rotate_left 1
  · intro X hX
    go_simp
    first | rfl | omega | (rw [if_neg (by omega)])
  · simp [Act.put]
    rfl
  refine anyC_take (i := 11) (v := ?_) (a' := ?_) HC rfl rfl (by kernel_rfl) (by kernel_rfl) (by kernel_rfl) hQp (by rfl) ?_ ?_ ?_
  rotate_left 2
  · intro X hX
    go_simp
    first | rfl | omega | (rw [if_neg (by omega)])
  · simp [Act.put]
    rfl
  refine anyC_done (by kernel_rfl) ?_ _
  clear hQp
  clear x0 x1 x2 x3 x4 x5 x6 xf0 xf1 xf2 xf3 xf4 xf5 xf6
  clear z0 z1 z2 z3 z4 z5 z6 zf0 zf1 zf2 zf3 zf4 zf5 zf6
  have hb1 := HC.2.1
  have hb2 := HC.2.2
  have HM3 := Lib.hid HC.1
  have HM3b := Lib.hid HC.2
  clear HC
  have x0 := hb1.cell 0
  have x1 := hb1.cell 1
  have x2 := hb1.cell 2
  have x3 := hb1.cell 3
  have x4 := hb1.cell 4
  have x5 := hb1.cell 5
  have x6 := hb1.cell 6
  have xf0 := hb1.frozen 0
  have xf1 := hb1.frozen 1
  have xf2 := hb1.frozen 2
  have xf3 := hb1.frozen 3
  have xf4 := hb1.frozen 4
  have xf5 := hb1.frozen 5
  have xf6 := hb1.frozen 6
  simp at x0 x1 x2 x3 x4 x5 x6
  have z0 := hb2.cell 0
  have z1 := hb2.cell 1
  have z2 := hb2.cell 2
  have z3 := hb2.cell 3
  have z4 := hb2.cell 4
  have z5 := hb2.cell 5
  have z6 := hb2.cell 6
  have zf0 := hb2.frozen 0
  have zf1 := hb2.frozen 1
  have zf2 := hb2.frozen 2
  have zf3 := hb2.frozen 3
  have zf4 := hb2.frozen 4
  have zf5 := hb2.frozen 5
  have zf6 := hb2.frozen 6
  simp at z0 z1 z2 z3 z4 z5 z6
  clear hb1 hb2
  by_cases hpz : p = 0
  · rw [hpz] at x6
    have HPZ := Lib.hid hpz
    clear hpz
    by_cases hl : l = []
    rotate_left
    · have hb : (0 : Int) < (l.length : Int) := by
        have := List.length_pos_iff.2 hl
        omega
      have HL := Lib.hid hl
      clear hl
      obtain ⟨nl, hnl⟩ : ∃ nl, nl = l.length := ⟨_, rfl⟩
      rw [← hnl] at x1 hb
      clear hnl
      go_wp2
      refine ret_tmps3 Tryz.results214 rfl ?_
      exact opt_no ⟨#[]⟩ ⟨#[]⟩ (by simp [okO, HL.out]) (by decide) (by decide) (by have hM := HM3.out; (repeat (first | assumption | refine Mod.alloc ?_ _ | refine Mod.drew ?_ | refine Mod.drewN ?_ _ | refine Mod.setCell ?_ (by first | (simp; done) | (simp; omega)) _)))
    have HL := Lib.hid hl
    have hl0 : l.length = 0 := by rw [hl]; rfl
    rw [hl0] at x1
    clear hl hl0
    rcases b with _ | _
    rotate_left
    · go_wp2
      refine ret_tmps3 Tryz.results214 rfl ?_
      exact opt_no ⟨#[115, 99, 97, 110]⟩ ((⟨#[32]⟩ : ByteArray) ++ DY ++ (⟨#[32]⟩ : ByteArray) ++ DT ++ (⟨#[32]⟩ : ByteArray) ++ DN) (by simp [okO]) (by decide) (by rw [Lib.size_eq]; simp only [app_str, List.length_append, ← Lib.size_eq]; simp; omega) (by have hM := HM3.out; (repeat (first | assumption | refine Mod.alloc ?_ _ | refine Mod.drew ?_ | refine Mod.drewN ?_ _ | refine Mod.setCell ?_ (by first | (simp; done) | (simp; omega)) _)))
    rcases hn : in40 n with _ | _
    · go_wp2_with fail
      refine (within_walk _ n).mono ?_
      rintro e X ⟨rfl, rfl⟩
      go_wp2
      refine ret_tmps3 Tryz.results214 rfl ?_
      exact opt_no ⟨#[115, 99, 97, 110]⟩ ((⟨#[32]⟩ : ByteArray) ++ DY ++ (⟨#[32]⟩ : ByteArray) ++ DT ++ (⟨#[32]⟩ : ByteArray) ++ DN) (by simp [okO, hn]) (by decide) (by rw [Lib.size_eq]; simp only [app_str, List.length_append, ← Lib.size_eq]; simp; omega) (by have hM := HM3.out; (repeat (first | assumption | refine Mod.alloc ?_ _ | refine Mod.drew ?_ | refine Mod.drewN ?_ _ | refine Mod.setCell ?_ (by first | (simp; done) | (simp; omega)) _)))
    go_wp2_with fail
    refine (within_walk _ n).mono ?_
    rintro e X ⟨rfl, rfl⟩
    go_wp2_with fail
    refine (within_walk _ 0).mono ?_
    rintro e X ⟨rfl, rfl⟩
    go_wp2
    refine ret_tmps3 Tryz.results214 rfl ?_
    exact opt_yes ⟨#[115, 99, 97, 110]⟩ ((⟨#[32]⟩ : ByteArray) ++ DY ++ (⟨#[32]⟩ : ByteArray) ++ DT ++ (⟨#[32]⟩ : ByteArray) ++ DN) (by simp [okO, hn, z40, HL.out, HPZ.out]) (fun c => by simp [operatedL, snapS, HPZ.out, wScan, HEDY.out, HEDT.out, HEDN.out]) (by decide) (by rw [Lib.size_eq]; simp only [app_str, List.length_append, ← Lib.size_eq]; simp; omega) (by have hM := HM3.out; (repeat (first | assumption | refine Mod.alloc ?_ _ | refine Mod.drew ?_ | refine Mod.drewN ?_ _ | refine Mod.setCell ?_ (by first | (simp; done) | (simp; omega)) _)))
  have hpb : (p == 0) = false := by rw [beq_eq_false_iff_ne]; exact hpz
  have HPZ := Lib.hid hpz
  clear hpz
  go_wp2_with fail
  refine (HDP.out _).mono ?_
  rintro e w5 ⟨rfl, hm5⟩
  have HM5 := Lib.hid (((HM3.out.setCell (p := ⟨w.heap.size + 1, 4, none⟩) (.inr (by simp)) (.string ⟨t.toArray⟩)).setCell (p := ⟨w.heap.size + 1, 5, none⟩) (.inr (by simp)) (.int .i64 n)).trans hm5)
  have hb1 := hm5.blk ((HM3b.out.1.far (by simp) _).far (by simp) _) (by simp)
  have hb2 := hm5.blk ((HM3b.out.2.set_ 4 (.string ⟨t.toArray⟩)).set_ 5 (.int .i64 n)) (by simp)
  clear hm5
  clear x0 x1 x2 x3 x4 x5 x6 xf0 xf1 xf2 xf3 xf4 xf5 xf6
  clear z0 z1 z2 z3 z4 z5 z6 zf0 zf1 zf2 zf3 zf4 zf5 zf6
  have x0 := hb1.cell 0
  have x1 := hb1.cell 1
  have x2 := hb1.cell 2
  have x3 := hb1.cell 3
  have x4 := hb1.cell 4
  have x5 := hb1.cell 5
  have x6 := hb1.cell 6
  have xf0 := hb1.frozen 0
  have xf1 := hb1.frozen 1
  have xf2 := hb1.frozen 2
  have xf3 := hb1.frozen 3
  have xf4 := hb1.frozen 4
  have xf5 := hb1.frozen 5
  have xf6 := hb1.frozen 6
  simp at x0 x1 x2 x3 x4 x5 x6
  have z0 := hb2.cell 0
  have z1 := hb2.cell 1
  have z2 := hb2.cell 2
  have z3 := hb2.cell 3
  have z4 := hb2.cell 4
  have z5 := hb2.cell 5
  have z6 := hb2.cell 6
  have zf0 := hb2.frozen 0
  have zf1 := hb2.frozen 1
  have zf2 := hb2.frozen 2
  have zf3 := hb2.frozen 3
  have zf4 := hb2.frozen 4
  have zf5 := hb2.frozen 5
  have zf6 := hb2.frozen 6
  simp at z0 z1 z2 z3 z4 z5 z6
  clear hb1 hb2
  by_cases hl : l = []
  rotate_left
  · have hb : (0 : Int) < (l.length : Int) := by
      have := List.length_pos_iff.2 hl
      omega
    have HL := Lib.hid hl
    clear hl
    obtain ⟨nl, hnl⟩ : ∃ nl, nl = l.length := ⟨_, rfl⟩
    rw [← hnl] at x1 hb
    clear hnl
    go_wp2
    refine ret_tmps3 Tryz.results214 rfl ?_
    exact opt_no ⟨#[]⟩ ⟨#[]⟩ (by simp [okO, HL.out]) (by decide) (by decide) (by have hM := HM5.out; (repeat (first | assumption | refine Mod.alloc ?_ _ | refine Mod.drew ?_ | refine Mod.drewN ?_ _ | refine Mod.setCell ?_ (by first | (simp; done) | (simp; omega)) _)))
  have HL := Lib.hid hl
  have hl0 : l.length = 0 := by rw [hl]; rfl
  rw [hl0] at x1
  clear hl hl0
  rcases b with _ | _
  rotate_left
  · go_wp2
    refine ret_tmps3 Tryz.results214 rfl ?_
    exact opt_no ⟨#[115, 99, 97, 110]⟩ ((⟨#[32]⟩ : ByteArray) ++ DY ++ (⟨#[32]⟩ : ByteArray) ++ DT ++ (⟨#[32]⟩ : ByteArray) ++ DN ++ (⟨#[32, 115, 110, 97, 112, 32]⟩ : ByteArray) ++ DP) (by simp [okO]) (by decide) (by rw [Lib.size_eq]; simp only [app_str, List.length_append, ← Lib.size_eq]; simp; omega) (by have hM := HM5.out; (repeat (first | assumption | refine Mod.alloc ?_ _ | refine Mod.drew ?_ | refine Mod.drewN ?_ _ | refine Mod.setCell ?_ (by first | (simp; done) | (simp; omega)) _)))
  rcases hn : in40 n with _ | _
  · go_wp2_with fail
    refine (within_walk _ n).mono ?_
    rintro e X ⟨rfl, rfl⟩
    go_wp2
    refine ret_tmps3 Tryz.results214 rfl ?_
    exact opt_no ⟨#[115, 99, 97, 110]⟩ ((⟨#[32]⟩ : ByteArray) ++ DY ++ (⟨#[32]⟩ : ByteArray) ++ DT ++ (⟨#[32]⟩ : ByteArray) ++ DN ++ (⟨#[32, 115, 110, 97, 112, 32]⟩ : ByteArray) ++ DP) (by simp [okO, hn]) (by decide) (by rw [Lib.size_eq]; simp only [app_str, List.length_append, ← Lib.size_eq]; simp; omega) (by have hM := HM5.out; (repeat (first | assumption | refine Mod.alloc ?_ _ | refine Mod.drew ?_ | refine Mod.drewN ?_ _ | refine Mod.setCell ?_ (by first | (simp; done) | (simp; omega)) _)))
  go_wp2_with fail
  refine (within_walk _ n).mono ?_
  rintro e X ⟨rfl, rfl⟩
  rcases hp : in40 p with _ | _
  · go_wp2_with fail
    refine (within_walk _ p).mono ?_
    rintro e X ⟨rfl, rfl⟩
    go_wp2
    refine ret_tmps3 Tryz.results214 rfl ?_
    exact opt_no ⟨#[115, 99, 97, 110]⟩ ((⟨#[32]⟩ : ByteArray) ++ DY ++ (⟨#[32]⟩ : ByteArray) ++ DT ++ (⟨#[32]⟩ : ByteArray) ++ DN ++ (⟨#[32, 115, 110, 97, 112, 32]⟩ : ByteArray) ++ DP) (by simp [okO, hp]) (by decide) (by rw [Lib.size_eq]; simp only [app_str, List.length_append, ← Lib.size_eq]; simp; omega) (by have hM := HM5.out; (repeat (first | assumption | refine Mod.alloc ?_ _ | refine Mod.drew ?_ | refine Mod.drewN ?_ _ | refine Mod.setCell ?_ (by first | (simp; done) | (simp; omega)) _)))
  go_wp2_with fail
  refine (within_walk _ p).mono ?_
  rintro e X ⟨rfl, rfl⟩
  go_wp2
  refine ret_tmps3 Tryz.results214 rfl ?_
  exact opt_yes ⟨#[115, 99, 97, 110]⟩ ((⟨#[32]⟩ : ByteArray) ++ DY ++ (⟨#[32]⟩ : ByteArray) ++ DT ++ (⟨#[32]⟩ : ByteArray) ++ DN ++ (⟨#[32, 115, 110, 97, 112, 32]⟩ : ByteArray) ++ DP) (by simp [okO, hp, hn, HL.out]) (fun c => by simp [operatedL, snapS, HPZ.out, wScan, HEDP.out, HEDY.out, HEDT.out, HEDN.out]) (by decide) (by rw [Lib.size_eq]; simp only [app_str, List.length_append, ← Lib.size_eq]; simp; omega) (by have hM := HM5.out; (repeat (first | assumption | refine Mod.alloc ?_ _ | refine Mod.drew ?_ | refine Mod.drewN ?_ _ | refine Mod.setCell ?_ (by first | (simp; done) | (simp; omega)) _)))
end Go.Proofs.YtjieelmbgfnllaaGreatDoor

namespace Go.Proofs.YtjieelmbgfnllaaGreatDoor
open Go.RowKit Scr

/-- While a batch's writes are told. -/
def BatchAt (w : World) (l : List Wr) (j : Nat) (D : ByteArray) (wr : World) : Prop :=
  D.data.toList = (l.take j).flatMap wrS ∧ (∀ x ∈ l.take j, x.del = true → x.val = []) ∧ D.size ≤ 65536 ∧ Mod [] w wr
theorem batch_next {w wr w4 : World} {l : List Wr} {j : Nat} {D E : ByteArray} {x : Wr} (h : BatchAt w l j D wr) (hx : l[j]? = some x) (hd : x.del = true → x.val = []) (hE : E.data.toList = D.data.toList ++ wrS x) (hz : E.size ≤ 65536) (hm : Mod [] wr w4) : BatchAt w l (j + 1) E w4 := by
  refine ⟨?_, ?_, hz, h.2.2.2.trans hm⟩
  · rw [hE, h.1, take_snoc l j x hx, List.flatMap_append]; simp
  · intro y hy
    rw [take_snoc l j x hx] at hy
    rcases List.mem_append.1 hy with hy | hy
    · exact h.2.1 y hy
    · simp at hy; subst hy; exact hd
theorem batch_long {w wr w4 : World} {l : List Wr} {b : Bool} {y t : Bs} {n p : Int} {j : Nat} {D E : ByteArray} {x : Wr} (h : BatchAt w l j D wr) (hx : l[j]? = some x) (hE : E.data.toList = D.data.toList ++ wrS x) (hz : 65536 < E.size) (hm : Mod [] wr w4) :
    OpTPost w ⟨1, l, b, y, t, n, p⟩ (.returned (.tuple #[.string ⟨#[]⟩, .string ⟨#[]⟩, .bool false])) w4 := by
  refine ⟨⟨#[]⟩, ⟨#[]⟩, false, rfl, h.2.2.2.trans hm, by decide, by decide, fun h0 => by (cases h0), fun _ => .inr fun c => ?_⟩
  have h1 : l.flatMap wrS = E.data.toList ++ (l.drop (j + 1)).flatMap wrS := by
    rw [hE, h.1]
    have h2 : (l.take j).flatMap wrS ++ wrS x = (l.take (j + 1)).flatMap wrS := by rw [take_snoc l j x hx, List.flatMap_append]; simp
    rw [h2, ← List.flatMap_append, List.take_append_drop]
  have h3 := congrArg List.length h1
  rw [List.length_append, ← Lib.size_eq] at h3
  rw [show operatedL ⟨1, l, b, y, t, n, p⟩ c = wWrite ++ c ++ l.flatMap wrS ++ (if b then [32, 115, 121, 110, 99] else []) from rfl]
  simp only [List.length_append]
  omega
theorem batch_bad {l : List Wr} {b : Bool} {y t : Bs} {n p : Int} {x : Wr} {j : Nat} (hx : l[j]? = some x) (hd : x.del = true) (hv : x.val ≠ []) : okO ⟨1, l, b, y, t, n, p⟩ = false := by
  have h1 : l.all (fun x => !x.del || decide (x.val = [])) = false := by
    rw [List.all_eq_false]
    exact ⟨x, List.mem_of_getElem? hx, by simp [hd, hv]⟩
  simp [okO, h1]
theorem batch_done {w wr : World} {l : List Wr} {j : Nat} {D : ByteArray} (h : BatchAt w l j D wr) (hj : l.length ≤ j) : D.data.toList = l.flatMap wrS ∧ l.all (fun x => !x.del || decide (x.val = [])) = true := by
  have ht : l.take j = l := List.take_of_length_le hj
  obtain ⟨h1, h2, _⟩ := h
  rw [ht] at h1 h2
  refine ⟨h1, List.all_eq_true.2 fun x hx => ?_⟩
  rcases hd : x.del with _ | _
  · rfl
  · simp [h2 x hx hd]
set_option maxRecDepth 100000 in
set_option maxHeartbeats 8000000 in
theorem optext_write (w : World) (l : List Wr) (b : Bool) (y t : Bs) (n p : Int) (wv : Value) (hw : SeenWrs w wv l) (hnice : OpNice ⟨1, l, b, y, t, n, p⟩) :
    Calls Tryz.prog 214 #[.agg #[.int .i64 1, wv, .bool b, .string ⟨y.toArray⟩, .string ⟨t.toArray⟩, .int .i64 n, .int .i64 p]] w (OpTPost w ⟨1, l, b, y, t, n, p⟩) := by
  have HS := Lib.hid (And.intro hw hnice)
  obtain ⟨A, c, rfl, _⟩ := hw
  have z40 := z40
  obtain ⟨nl, hnl⟩ : ∃ nl, nl = l.length := ⟨_, rfl⟩
  rw [← hnl]
  have hn7 : nl ≤ 70000 := by rw [hnl]; exact hnice.2.2.1
  have HN := Lib.hid hnl
  clear hnl hnice
  have HB := Lib.hid (show Blk ((w.alloc (.cells #[.int .i64 1, .slice A nl c, .bool b, .string ⟨y.toArray⟩, .string ⟨t.toArray⟩, .int .i64 n, .int .i64 p] 67)).alloc (.cells #[.int .i64 1, .slice none 0 0, .bool false, .string ⟨#[]⟩, .string ⟨#[]⟩, .int .i64 0, .int .i64 0] 67)) w.heap.size 67 #[.int .i64 1, .slice A nl c, .bool b, .string ⟨y.toArray⟩, .string ⟨t.toArray⟩, .int .i64 n, .int .i64 p] ∧ Blk ((w.alloc (.cells #[.int .i64 1, .slice A nl c, .bool b, .string ⟨y.toArray⟩, .string ⟨t.toArray⟩, .int .i64 n, .int .i64 p] 67)).alloc (.cells #[.int .i64 1, .slice none 0 0, .bool false, .string ⟨#[]⟩, .string ⟨#[]⟩, .int .i64 0, .int .i64 0] 67)) (w.heap.size + 1) 67 #[.int .i64 1, .slice none 0 0, .bool false, .string ⟨#[]⟩, .string ⟨#[]⟩, .int .i64 0, .int .i64 0] from ⟨(Blk.new _ _ _).alloc _, Blk.newAt _ _ _ (by simp)⟩)
  go_enter Tryz.func214, Tryz.ntmps214
  go_wp2
  go_loopw [6, 8] (fun s6 s8 wr => ∃ (j : Nat) (D : ByteArray), s8 = .int .i64 j ∧ s6 = .string D ∧ j ≤ nl ∧ BatchAt w l j D wr ∧ Blk wr w.heap.size 67 #[.int .i64 1, .slice A nl c, .bool b, .string ⟨y.toArray⟩, .string ⟨t.toArray⟩, .int .i64 n, .int .i64 p] ∧ Blk wr (w.heap.size + 1) 67 #[.int .i64 1, .slice none 0 0, .bool false, .string ⟨#[]⟩, .string ⟨#[]⟩, .int .i64 0, .int .i64 0]) (fun _ s8 _ => nl - (RowKit.intOf s8).toNat)
  case atStart => exact ⟨0, ⟨#[]⟩, by go_num, rfl, Nat.zero_le _, ⟨rfl, by simp, by decide, ((Mod.refl _ _).alloc _).alloc _⟩, HB.out.1, HB.out.2⟩
  case round =>
    obtain ⟨j, D, rfl, rfl, hj, hf, hB1, hB2⟩ := hrel
    have H := Lib.hid (And.intro hf (And.intro hB1 hB2))
    have hDz := hf.2.2.1
    have hbl := hB1.lt
    have hbl2 := hB2.lt
    have x0 := hB1.cell 0
    have x1 := hB1.cell 1
    have x2 := hB1.cell 2
    have x3 := hB1.cell 3
    have x4 := hB1.cell 4
    have x5 := hB1.cell 5
    have x6 := hB1.cell 6
    have xf0 := hB1.frozen 0
    have xf1 := hB1.frozen 1
    have xf2 := hB1.frozen 2
    have xf3 := hB1.frozen 3
    have xf4 := hB1.frozen 4
    have xf5 := hB1.frozen 5
    have xf6 := hB1.frozen 6
    simp at x0 x1 x2 x3 x4 x5 x6
    have z0 := hB2.cell 0
    have z1 := hB2.cell 1
    have z2 := hB2.cell 2
    have z3 := hB2.cell 3
    have z4 := hB2.cell 4
    have z5 := hB2.cell 5
    have z6 := hB2.cell 6
    have zf0 := hB2.frozen 0
    have zf1 := hB2.frozen 1
    have zf2 := hB2.frozen 2
    have zf3 := hB2.frozen 3
    have zf4 := hB2.frozen 4
    have zf5 := hB2.frozen 5
    have zf6 := hB2.frozen 6
    simp at z0 z1 z2 z3 z4 z5 z6
    clear hf hB1 hB2
    by_cases hjl : j < nl
    · obtain ⟨x, hx⟩ : ∃ x, l[j]? = some x := ⟨_, List.getElem?_eq_getElem (by rw [← HN.out]; exact hjl)⟩
      obtain ⟨b1, o1, c1, e1, hc0, hc1, hc2⟩ := HS.out.1.at_ hx
      obtain rfl : A = some ⟨b1, o1, none⟩ := by injection e1
      have hxb := HS.out.2.2.2.2.1 x (List.mem_of_getElem? hx)
      have hrange : wr.rangeAt b1 (o1 + j * 3) [.string ⟨x.key.toArray⟩, .bool x.del, .string ⟨x.val.toArray⟩] := by
        intro i u hu
        match i, hu with
        | 0, hu => simp at hu; subst hu; exact H.out.1.2.2.2.cell hc0 (by simp)
        | 1, hu => simp at hu; subst hu; rw [Nat.add_assoc]; exact H.out.1.2.2.2.cell hc1 (by simp)
        | 2, hu => simp at hu; subst hu; rw [Nat.add_assoc]; exact H.out.1.2.2.2.cell hc2 (by simp)
      have HR := Lib.hid (And.intro hx hrange)
      clear hx hrange hc0 hc1 hc2 e1
      have hjn : (j : Int) < (nl : Int) := by omega
      obtain ⟨DK, hDK⟩ : ∃ DK : ByteArray, DK.data.toList = quotingL x.key := ⟨⟨(quotingL x.key).toArray⟩, rfl⟩
      have hDKz : DK.size ≤ 280002 := by rw [Lib.size_eq, hDK]; exact quoting_le2 x.key (hxb.1)
      have HDK := Lib.hid (show ∀ X : World, Calls Tryz.prog 233 #[.string ⟨x.key.toArray⟩] X fun e w' => e = .returned (.string DK) ∧ Mod [] X w' from fun X => by
        refine (rquote_walk X ⟨x.key.toArray⟩ (by rw [Lib.size_eq]; have h70 : x.key.length ≤ 70000 := hxb.1; simp; omega)).mono ?_
        rintro e w' ⟨rfl, hm⟩
        exact ⟨by rw [str_is hDK], hm⟩)
      have HEDK := Lib.hid hDK
      clear hDK
      by_cases hd : x.del = true
      · have HWR := Lib.hid (show wrS x = [32, 100, 101, 108, 32] ++ quotingL x.key by unfold wrS; rw [if_pos hd])
        have HDT := Lib.hid hd
        rw [hd] at HR
        clear hd
        by_cases hv : x.val = []
        rotate_left
        · have hb : ((⟨x.val.toArray⟩ : ByteArray).toList == []) = false := by
            rw [beq_eq_false_iff_ne, Lib.toList_data]; exact hv
          have hb2 : x.val.isEmpty = false := by simpa using hv
          have HV := Lib.hid hv
          clear hv
          go_wp2_with (refine wpList_load_mid rfl 71 _ rfl b1 (o1 + j * 3) rfl _ _ HR.out.2 Tryz.underlying71 rfl (by kernel_rfl) ?_)
          refine ret_tmps3 Tryz.results214 rfl ?_
          exact opt_no ⟨#[]⟩ ⟨#[]⟩ (batch_bad HR.out.1 HDT.out HV.out) (by decide) (by decide) (H.out.1.2.2.2.alloc _)
        have HVE := Lib.hid hv
        rw [hv] at HR
        clear hv
        go_wp2_with (refine wpList_load_mid rfl 71 _ rfl b1 (o1 + j * 3) rfl _ _ HR.out.2 Tryz.underlying71 rfl (by kernel_rfl) ?_)
        go_wp2_with fail
        refine (HDK.out _).mono ?_
        rintro e w3 ⟨rfl, hm3⟩
        have HM3 := Lib.hid hm3
        clear hm3
        have HE := Lib.hid (show (D ++ (⟨#[32, 100, 101, 108, 32]⟩ : ByteArray) ++ DK).data.toList = D.data.toList ++ wrS x by simp only [app_str, HEDK.out, HWR.out]; simp)
        have HZ := Lib.hid (show (D ++ (⟨#[32, 100, 101, 108, 32]⟩ : ByteArray) ++ DK).size = D.size + 5 + DK.size by rw [Lib.size_eq]; simp only [app_str, List.length_append, ← Lib.size_eq]; simp)
        go_wp2
        · refine ret_tmps3 Tryz.results214 rfl ?_
          exact batch_long H.out.1 HR.out.1 HE.out (by rw [HZ.out]; omega) (((Mod.refl [] wr).alloc _).trans HM3.out)
        · go_roundw
          case rel => exact ⟨j + 1, _, by go_num, rfl, by omega, batch_next H.out.1 HR.out.1 (fun _ => HVE.out) HE.out (by rw [HZ.out]; omega) (((Mod.refl [] wr).alloc _).trans HM3.out), (((((Mod.refl [] wr).alloc _).trans HM3.out)).blk H.out.2.1 (by simp)), (((((Mod.refl [] wr).alloc _).trans HM3.out)).blk H.out.2.2 (by simp))⟩
          case measure => simp [RowKit.intOf]; omega
      · have hd' : x.del = false := by simpa using hd
        have HWR := Lib.hid (show wrS x = [32, 112, 117, 116, 32] ++ quotingL x.key ++ [32] ++ quotingL x.val by unfold wrS; rw [if_neg hd])
        have HDF := Lib.hid hd'
        rw [hd'] at HR
        clear hd hd'
        obtain ⟨DV, hDV⟩ : ∃ DV : ByteArray, DV.data.toList = quotingL x.val := ⟨⟨(quotingL x.val).toArray⟩, rfl⟩
        have hDVz : DV.size ≤ 280002 := by rw [Lib.size_eq, hDV]; exact quoting_le2 x.val (hxb.2)
        have HDV := Lib.hid (show ∀ X : World, Calls Tryz.prog 233 #[.string ⟨x.val.toArray⟩] X fun e w' => e = .returned (.string DV) ∧ Mod [] X w' from fun X => by
          refine (rquote_walk X ⟨x.val.toArray⟩ (by rw [Lib.size_eq]; have h70 : x.val.length ≤ 70000 := hxb.2; simp; omega)).mono ?_
          rintro e w' ⟨rfl, hm⟩
          exact ⟨by rw [str_is hDV], hm⟩)
        have HEDV := Lib.hid hDV
        clear hDV
        go_wp2_with (refine wpList_load_mid rfl 71 _ rfl b1 (o1 + j * 3) rfl _ _ HR.out.2 Tryz.underlying71 rfl (by kernel_rfl) ?_)
        have HC := And.intro ((Mod.refl [] wr).alloc (.cells #[.string ⟨x.key.toArray⟩, .bool false, .string ⟨x.val.toArray⟩] 71)) (Blk.new wr 71 #[.string ⟨x.key.toArray⟩, .bool false, .string ⟨x.val.toArray⟩])
        refine region_C (fun X => Mod [] wr X ∧ Blk X wr.heap.size 71 #[.string ⟨x.key.toArray⟩, .bool false, .string ⟨x.val.toArray⟩]) (by kernel_rfl) (fun _ _ _ _ _ h => h) (fun hQp => ?_)
        replace HC := And.intro HC.1.drew HC.2.drew
        simp only [List.length_cons, List.length_nil]
        refine anyC_take (i := 0) (v := ?_) (a' := ?_) HC rfl rfl (by kernel_rfl) (by kernel_rfl) (by kernel_rfl) hQp (by rfl) ?_ ?_ ?_
        rotate_left 2
        · intro X hX
          go_simp
          first | rfl | omega | (rw [if_neg (by omega)])
        · simp [Act.put]
          rfl
        refine anyC_take (i := 1) (v := .string (D ++ (⟨#[32, 112, 117, 116, 32]⟩ : ByteArray))) (a' := ?_) HC rfl rfl (by kernel_rfl) (by kernel_rfl) (by kernel_rfl) hQp (by rfl) ?_ ?_ ?_
        rotate_left 1
        · intro X hX
          go_simp
          first | rfl | omega | (rw [if_neg (by omega)])
        · simp [Act.put]
          rfl
        refine anyC_take (i := 2) (v := ?_) (a' := ?_) HC rfl rfl (by kernel_rfl) (by kernel_rfl) (by kernel_rfl) hQp (by rfl) ?_ ?_ ?_
        rotate_left 2
        · intro X hX
          go_simp
          first | rfl | omega | (rw [if_neg (by omega)])
        · simp [Act.put]
          rfl
        refine anyC_take (i := 3) (v := ?_) (a' := ?_) HC rfl rfl (by kernel_rfl) (by kernel_rfl) (by kernel_rfl) hQp (by rfl) ?_ ?_ ?_
        rotate_left 2
        · intro X hX
          have hx := hX.2.cell 0
          simp at hx
          go_simp
          first | rfl | omega | (rw [if_neg (by omega)])
        · simp [Act.put]
          rfl
        refine anyC_take (i := 7) (v := ?_) (a' := ?_) HC rfl rfl (by kernel_rfl) (by kernel_rfl) (by kernel_rfl) hQp (by rfl) ?_ ?_ ?_
        rotate_left 2
        · intro X hX
          go_simp
          first | rfl | omega | (rw [if_neg (by omega)])
        · simp [Act.put]
          rfl
        refine anyC_take (i := 8) (v := ?_) (a' := ?_) HC rfl rfl (by kernel_rfl) (by kernel_rfl) (by kernel_rfl) hQp (by rfl) ?_ ?_ ?_
        rotate_left 2
        · intro X hX
          have hx := hX.2.cell 2
          simp at hx
          go_simp
          first | rfl | omega | (rw [if_neg (by omega)])
        · simp [Act.put]
          rfl
        refine anyC_step (i := 4) (by kernel_rfl) rfl (by rfl) ?_
        unfold Oper.wp
        go_simp
        refine (HDK.out _).mono ?_
        rintro e v4 ⟨rfl, hm4⟩
        replace HC := And.intro (HC.1.trans hm4) (hm4.blk HC.2 (by simp))
        refine ⟨HC, ?_⟩
        refine anyC_take (i := 5) (v := .string (D ++ (⟨#[32, 112, 117, 116, 32]⟩ : ByteArray) ++ DK)) (a' := ?_) HC rfl rfl (by kernel_rfl) (by kernel_rfl) (by kernel_rfl) hQp (by rfl) ?_ ?_ ?_
        rotate_left 1
        · intro X hX
          go_simp
          first | rfl | omega | (rw [if_neg (by omega)])
        · simp [Act.put]
          rfl
        refine anyC_take (i := 6) (v := .string (D ++ (⟨#[32, 112, 117, 116, 32]⟩ : ByteArray) ++ DK ++ (⟨#[32]⟩ : ByteArray))) (a' := ?_) HC rfl rfl (by kernel_rfl) (by kernel_rfl) (by kernel_rfl) hQp (by rfl) ?_ ?_ ?_
        rotate_left 1
        · intro X hX
          go_simp
          first | rfl | omega | (rw [if_neg (by omega)])
        · simp [Act.put]
          rfl
        refine anyC_step (i := 9) (by kernel_rfl) rfl (by rfl) ?_
        unfold Oper.wp
        go_simp
        refine (HDV.out _).mono ?_
        rintro e v9 ⟨rfl, hm9⟩
        replace HC := And.intro (HC.1.trans hm9) (hm9.blk HC.2 (by simp))
        refine ⟨HC, ?_⟩
        refine anyC_take (i := 10) (v := .string (D ++ (⟨#[32, 112, 117, 116, 32]⟩ : ByteArray) ++ DK ++ (⟨#[32]⟩ : ByteArray) ++ DV)) (a' := ?_) HC rfl rfl (by kernel_rfl) (by kernel_rfl) (by kernel_rfl) hQp (by rfl) ?_ ?_ ?_
        rotate_left 1
        · intro X hX
          go_simp
          first | rfl | omega | (rw [if_neg (by omega)])
        · simp [Act.put]
          rfl
        refine anyC_take (i := 11) (v := ?_) (a' := ?_) HC rfl rfl (by kernel_rfl) (by kernel_rfl) (by kernel_rfl) hQp (by rfl) ?_ ?_ ?_
        rotate_left 2
        · intro X hX
          go_simp
          first | rfl | omega | (rw [if_neg (by omega)])
        · simp [Act.put]
          rfl
        refine anyC_done (by kernel_rfl) ?_ _
        clear hQp
        have HM := Lib.hid HC.1
        clear HC
        have HE := Lib.hid (show (D ++ (⟨#[32, 112, 117, 116, 32]⟩ : ByteArray) ++ DK ++ (⟨#[32]⟩ : ByteArray) ++ DV).data.toList = D.data.toList ++ wrS x by simp only [app_str, HEDK.out, HEDV.out, HWR.out]; simp)
        have HZ := Lib.hid (show (D ++ (⟨#[32, 112, 117, 116, 32]⟩ : ByteArray) ++ DK ++ (⟨#[32]⟩ : ByteArray) ++ DV).size = D.size + 5 + DK.size + 1 + DV.size by rw [Lib.size_eq]; simp only [app_str, List.length_append, ← Lib.size_eq]; simp)
        go_wp2
        · refine ret_tmps3 Tryz.results214 rfl ?_
          exact batch_long H.out.1 HR.out.1 HE.out (by rw [HZ.out]; omega) HM.out
        · go_roundw
          case rel => exact ⟨j + 1, _, by go_num, rfl, by omega, batch_next H.out.1 HR.out.1 (fun h => by rw [HDF.out] at h; cases h) HE.out (by rw [HZ.out]; omega) HM.out, ((HM.out).blk H.out.2.1 (by simp)), ((HM.out).blk H.out.2.2 (by simp))⟩
          case measure => simp [RowKit.intOf]; omega
    · obtain ⟨hD, hall⟩ := batch_done H.out.1 (by rw [← HN.out]; omega)
      have HD := Lib.hid (And.intro hD hall)
      clear hD hall
      rcases b with _ | _
      · by_cases hy : y = []
        rotate_left
        · have hb : ((⟨y.toArray⟩ : ByteArray).toList == []) = false := by
            rw [beq_eq_false_iff_ne, Lib.toList_data]; exact hy
          have HF := Lib.hid hy
          clear hy
          go_wp2
          refine ret_tmps3 Tryz.results214 rfl ?_
          exact opt_no ⟨#[119, 114, 105, 116, 101]⟩ (D) (by simp [okO, HF.out]) (by decide) (by omega) (by have hM := H.out.1.2.2.2; (repeat (first | assumption | refine Mod.alloc ?_ _ | refine Mod.drew ?_ | refine Mod.drewN ?_ _ | refine Mod.setCell ?_ (by first | (simp; done) | (simp; omega)) _)))
        rw [hy] at x3
        have HFy := Lib.hid hy
        clear hy
        by_cases ht : t = []
        rotate_left
        · have hb : ((⟨t.toArray⟩ : ByteArray).toList == []) = false := by
            rw [beq_eq_false_iff_ne, Lib.toList_data]; exact ht
          have HF := Lib.hid ht
          clear ht
          go_wp2
          refine ret_tmps3 Tryz.results214 rfl ?_
          exact opt_no ⟨#[119, 114, 105, 116, 101]⟩ (D) (by simp [okO, HF.out]) (by decide) (by omega) (by have hM := H.out.1.2.2.2; (repeat (first | assumption | refine Mod.alloc ?_ _ | refine Mod.drew ?_ | refine Mod.drewN ?_ _ | refine Mod.setCell ?_ (by first | (simp; done) | (simp; omega)) _)))
        rw [ht] at x4
        have HFt := Lib.hid ht
        clear ht
        by_cases hn : n = 0
        rotate_left
        · have hb : (n == 0) = false := by rw [beq_eq_false_iff_ne]; exact hn
          have HF := Lib.hid hn
          clear hn
          go_wp2
          refine ret_tmps3 Tryz.results214 rfl ?_
          exact opt_no ⟨#[119, 114, 105, 116, 101]⟩ (D) (by simp [okO, HF.out]) (by decide) (by omega) (by have hM := H.out.1.2.2.2; (repeat (first | assumption | refine Mod.alloc ?_ _ | refine Mod.drew ?_ | refine Mod.drewN ?_ _ | refine Mod.setCell ?_ (by first | (simp; done) | (simp; omega)) _)))
        rw [hn] at x5
        have HFn := Lib.hid hn
        clear hn
        by_cases hp : p = 0
        rotate_left
        · have hb : (p == 0) = false := by rw [beq_eq_false_iff_ne]; exact hp
          have HF := Lib.hid hp
          clear hp
          go_wp2
          refine ret_tmps3 Tryz.results214 rfl ?_
          exact opt_no ⟨#[119, 114, 105, 116, 101]⟩ (D) (by simp [okO, HF.out]) (by decide) (by omega) (by have hM := H.out.1.2.2.2; (repeat (first | assumption | refine Mod.alloc ?_ _ | refine Mod.drew ?_ | refine Mod.drewN ?_ _ | refine Mod.setCell ?_ (by first | (simp; done) | (simp; omega)) _)))
        rw [hp] at x6
        have HFp := Lib.hid hp
        clear hp
        go_wp2_with fail
        refine (within_walk _ 0).mono ?_
        rintro e X ⟨rfl, rfl⟩
        go_wp2_with fail
        refine (within_walk _ 0).mono ?_
        rintro e X ⟨rfl, rfl⟩
        go_wp2
        refine ret_tmps3 Tryz.results214 rfl ?_
        exact opt_yes ⟨#[119, 114, 105, 116, 101]⟩ (D) (by simp only [okO, HFy.out, HFt.out, HFn.out, HFp.out, z40, HD.out.2]; rfl) (fun c => by simp [operatedL, wWrite, HD.out.1]) (by decide) (by omega) (by have hM := H.out.1.2.2.2; (repeat (first | assumption | refine Mod.alloc ?_ _ | refine Mod.drew ?_ | refine Mod.drewN ?_ _ | refine Mod.setCell ?_ (by first | (simp; done) | (simp; omega)) _)))
      · by_cases hy : y = []
        rotate_left
        · have hb : ((⟨y.toArray⟩ : ByteArray).toList == []) = false := by
            rw [beq_eq_false_iff_ne, Lib.toList_data]; exact hy
          have HF := Lib.hid hy
          clear hy
          go_wp2
          refine ret_tmps3 Tryz.results214 rfl ?_
          exact opt_no ⟨#[119, 114, 105, 116, 101]⟩ (D ++ (⟨#[32, 115, 121, 110, 99]⟩ : ByteArray)) (by simp [okO, HF.out]) (by decide) (by rw [Lib.size_eq]; simp only [app_str, List.length_append, ← Lib.size_eq]; simp; omega) (by have hM := H.out.1.2.2.2; (repeat (first | assumption | refine Mod.alloc ?_ _ | refine Mod.drew ?_ | refine Mod.drewN ?_ _ | refine Mod.setCell ?_ (by first | (simp; done) | (simp; omega)) _)))
        rw [hy] at x3
        have HFy := Lib.hid hy
        clear hy
        by_cases ht : t = []
        rotate_left
        · have hb : ((⟨t.toArray⟩ : ByteArray).toList == []) = false := by
            rw [beq_eq_false_iff_ne, Lib.toList_data]; exact ht
          have HF := Lib.hid ht
          clear ht
          go_wp2
          refine ret_tmps3 Tryz.results214 rfl ?_
          exact opt_no ⟨#[119, 114, 105, 116, 101]⟩ (D ++ (⟨#[32, 115, 121, 110, 99]⟩ : ByteArray)) (by simp [okO, HF.out]) (by decide) (by rw [Lib.size_eq]; simp only [app_str, List.length_append, ← Lib.size_eq]; simp; omega) (by have hM := H.out.1.2.2.2; (repeat (first | assumption | refine Mod.alloc ?_ _ | refine Mod.drew ?_ | refine Mod.drewN ?_ _ | refine Mod.setCell ?_ (by first | (simp; done) | (simp; omega)) _)))
        rw [ht] at x4
        have HFt := Lib.hid ht
        clear ht
        by_cases hn : n = 0
        rotate_left
        · have hb : (n == 0) = false := by rw [beq_eq_false_iff_ne]; exact hn
          have HF := Lib.hid hn
          clear hn
          go_wp2
          refine ret_tmps3 Tryz.results214 rfl ?_
          exact opt_no ⟨#[119, 114, 105, 116, 101]⟩ (D ++ (⟨#[32, 115, 121, 110, 99]⟩ : ByteArray)) (by simp [okO, HF.out]) (by decide) (by rw [Lib.size_eq]; simp only [app_str, List.length_append, ← Lib.size_eq]; simp; omega) (by have hM := H.out.1.2.2.2; (repeat (first | assumption | refine Mod.alloc ?_ _ | refine Mod.drew ?_ | refine Mod.drewN ?_ _ | refine Mod.setCell ?_ (by first | (simp; done) | (simp; omega)) _)))
        rw [hn] at x5
        have HFn := Lib.hid hn
        clear hn
        by_cases hp : p = 0
        rotate_left
        · have hb : (p == 0) = false := by rw [beq_eq_false_iff_ne]; exact hp
          have HF := Lib.hid hp
          clear hp
          go_wp2
          refine ret_tmps3 Tryz.results214 rfl ?_
          exact opt_no ⟨#[119, 114, 105, 116, 101]⟩ (D ++ (⟨#[32, 115, 121, 110, 99]⟩ : ByteArray)) (by simp [okO, HF.out]) (by decide) (by rw [Lib.size_eq]; simp only [app_str, List.length_append, ← Lib.size_eq]; simp; omega) (by have hM := H.out.1.2.2.2; (repeat (first | assumption | refine Mod.alloc ?_ _ | refine Mod.drew ?_ | refine Mod.drewN ?_ _ | refine Mod.setCell ?_ (by first | (simp; done) | (simp; omega)) _)))
        rw [hp] at x6
        have HFp := Lib.hid hp
        clear hp
        go_wp2_with fail
        refine (within_walk _ 0).mono ?_
        rintro e X ⟨rfl, rfl⟩
        go_wp2_with fail
        refine (within_walk _ 0).mono ?_
        rintro e X ⟨rfl, rfl⟩
        go_wp2
        refine ret_tmps3 Tryz.results214 rfl ?_
        exact opt_yes ⟨#[119, 114, 105, 116, 101]⟩ (D ++ (⟨#[32, 115, 121, 110, 99]⟩ : ByteArray)) (by simp only [okO, HFy.out, HFt.out, HFn.out, HFp.out, z40, HD.out.2]; rfl) (fun c => by simp [operatedL, wWrite, HD.out.1]) (by decide) (by rw [Lib.size_eq]; simp only [app_str, List.length_append, ← Lib.size_eq]; simp; omega) (by have hM := H.out.1.2.2.2; (repeat (first | assumption | refine Mod.alloc ?_ _ | refine Mod.drew ?_ | refine Mod.drewN ?_ _ | refine Mod.setCell ?_ (by first | (simp; done) | (simp; omega)) _)))
end Go.Proofs.YtjieelmbgfnllaaGreatDoor
