/- spaced of the laws lays the text with more blanks. Conditions: a text of at most 20000 bytes; at least one number. -/
import Derived.Test.YtjieelmbgfnllaaGreatDoorScQuoting
namespace Go.Proofs.YtjieelmbgfnllaaGreatDoor
open Go.RowKit Scr

def spF (l : List Int) (k : Nat) : Int := l.getD (k % l.length) 0
theorem spS_le (f : Nat → Int) (m : Md) (k : Nat) (c : UInt8) : (spS f m k c).1.length ≤ 6 := by
  cases m <;> unfold spS <;> simp only [] <;> (repeat' split) <;> simp [spN, spB] <;> (repeat' split) <;> simp
theorem spG_le (f : Nat → Int) : ∀ (l : Bs) (m : Md) (k : Nat), (spG f m k l).length ≤ 6 * l.length
  | [], _, _ => by rw [spG]; simp
  | c :: t, m, k => by
    rw [spG, List.length_append, List.length_cons]
    have := spS_le f m k c
    have := spG_le f t (spS f m k c).2.1 (spS f m k c).2.2
    omega
theorem sp_step {f : Nat → Int} {m : Md} {k i : Nat} {l acc G : Bs} {c : UInt8} (h : acc ++ spG f m k (l.drop i) = G) (hc : l[i]? = some c) : acc ++ (spS f m k c).1 ++ spG f (spS f m k c).2.1 (spS f m k c).2.2 (l.drop (i + 1)) = G := by
  obtain ⟨hi, rfl⟩ := List.getElem?_eq_some_iff.1 hc
  rw [List.drop_eq_getElem_cons hi, spG, ← List.append_assoc] at h
  exact h
theorem sp_start {f : Nat → Int} {k i : Nat} {l acc G : Bs} (h : acc ++ spG f .out k (l.drop i) = G) (hc : l[i]? = some 35) : acc ++ spG f (.com (f k)) (k + 1) (l.drop i) = G := by
  obtain ⟨hi, hx⟩ := List.getElem?_eq_some_iff.1 hc
  rw [List.drop_eq_getElem_cons hi, hx] at h ⊢
  rw [← h]
  simp [spG, spS]
theorem sp_end {f : Nat → Int} {m : Md} {k i : Nat} {l acc G : Bs} (h : acc ++ spG f m k (l.drop i) = G) (hi : l.length ≤ i) : acc = G := by
  rw [List.drop_eq_nil_of_le hi, spG, List.append_nil] at h
  exact h
def mdOf : Bool → Md
  | true => .inq
  | false => .out
/-- What was laid when the walk stands at i. -/
def Lays (w : World) (G : Bs) (f : Nat → Int) (l : Bs) (m : Md) (k i : Nat) (acc : Bs) (v : Value) (wr : World) : Prop :=
  wr.ownsRow w.heap.size 5 1 v acc.length (Lib.byteCells acc) ∧ Mod [] w wr ∧ acc ++ spG f m k (l.drop i) = G
theorem Lays.le {w wr : World} {G l acc : Bs} {f : Nat → Int} {m : Md} {k i : Nat} {v : Value} (h : Lays w G f l m k i acc v wr) : acc.length ≤ G.length := by
  rw [← h.2.2, List.length_append]; omega
theorem grow_mod {w wr W w2 : World} {v : Value} {acc : Bs} (h : wr.ownsRow w.heap.size 5 1 v acc.length (Lib.byteCells acc)) (hm : Mod [] w wr) (hW : Mod [] wr W) (hg : W.grownBy w2 v.ownBlock) : Mod [] w w2 :=
  (hm.trans hW).grown hg (fun _ hk => .inr (own_ge h hk))
theorem str_cells {s : ByteArray} {l : Bs} (h : s.data.toList = l) : Lib.strCells s = Lib.byteCells l := by
  subst h; simp [Lib.strCells, Lib.byteCells]
theorem wp_adds {ops : Array Oper} {rest : List Oper} {o : Oper} {a : Act} {w : World} {Q : Exit → Act → World → Prop} (hgd : o.guard = none) (sl x : Operand)
    (ho : o.op = .call { callee := .builtin .append, args := #[sl, x], argTypes := #[78, 78] })
    (lo : Nat) (v : Value) (acc : Bs) (hs : a.eval sl = v) (hown : w.ownsRow lo 5 1 v acc.length (Lib.byteCells acc)) (news : Bs) (W : World) (n c : Nat) (hx : a.eval x = .slice (some ⟨W.heap.size, 0, none⟩) n c) (hn : n = news.length)
    (hw : w = W.alloc (.cells (Lib.byteCells news).toArray 5)) (hl : acc.length + news.length ≤ 70368744177664) (hlo : lo ≤ W.heap.size)
    (h : ∀ v' w', w'.ownsRow lo 5 1 v' (acc ++ news).length (Lib.byteCells (acc ++ news)) → w.grownBy w' v.ownBlock → wpList Tryz.prog ops Q rest (a.put o.dst v') w') : wpList Tryz.prog ops Q (o :: rest) a w := by
  obtain ⟨i0, hi, hz0, hz1, hz2⟩ := info_parts info_u8
  refine wpList_append_own _ hgd sl x 78 ho lo 5 i0 (.int .u8 0) 1 1 Tryz.underlying78 hi hz0 hz1 hz2 rfl (by decide) v acc.length (Lib.byteCells acc) hs hown ⟨W.heap.size, 0, none⟩ n c (Lib.byteCells news) hx (by rw [Lib.byteCells_length, hn, Nat.mul_one])
    (by rw [hw]; exact cells_new W _ _) (bytes_one news) (by unfold maxLen; omega) (by omega) (by rw [hw]; simp; omega) (fun v' w' h1 h2 _ => ?_)
  exact h v' w' (by rw [List.length_append, Lib.byteCells_append, ← hn]; exact h1) h2
theorem wp_five {ops : Array Oper} {rest : List Oper} {o : Oper} {a : Act} {w : World} {Q : Exit → Act → World → Prop} (hgd : o.guard = none) (sl x : Operand)
    (ho : o.op = .call { callee := .builtin .append, args := #[sl, x], argTypes := #[78, 9] })
    (lo : Nat) (v : Value) (acc : Bs) (hs : a.eval sl = v) (hown : w.ownsRow lo 5 1 v acc.length (Lib.byteCells acc)) (s : ByteArray) (news : Bs) (hn : s.data.toList = news) (hx : a.eval x = .string s)
    (hl : acc.length + news.length ≤ 70368744177664) (hlo : lo ≤ w.heap.size)
    (h : ∀ v' w', w'.ownsRow lo 5 1 v' (acc ++ news).length (Lib.byteCells (acc ++ news)) → w.grownBy w' v.ownBlock → wpList Tryz.prog ops Q rest (a.put o.dst v') w') : wpList Tryz.prog ops Q (o :: rest) a w := by
  obtain ⟨i0, hi, hz0, hz1, hz2⟩ := info_parts info_u8
  have hsl : s.size = news.length := by rw [Lib.size_eq, hn]
  refine Lib.wpList_append_own_string _ hgd sl x 78 9 ho lo 5 i0 Tryz.underlying78 Tryz.underlying9 hi hz0 hz1 hz2 v acc.length (Lib.byteCells acc) hs hown s hx (by rw [hsl]; unfold maxLen; omega) (by rw [hsl]; omega) hlo (fun v' w' h1 h2 _ => ?_)
  exact h v' w' (by rw [List.length_append, Lib.byteCells_append, ← str_cells hn, ← hsl]; exact h1) h2
theorem ne_nat {c : UInt8} (d : UInt8) (h : c ≠ d) : ((c.toNat : Int) == (d.toNat : Int)) = false := by
  rw [beq_eq_false_iff_ne]; intro e; exact h (UInt8.toNat_inj.1 (by omega))

set_option maxRecDepth 100000 in
set_option maxHeartbeats 8000000 in
theorem spaced_walk (w : World) (T : ByteArray) (v : Value) (bs : List Int) (hT : T.size ≤ 20000) (hb : SeenInts w v bs) (h0 : 0 < bs.length) (hbl : bs.length ≤ 1000) :
    Calls Tryz.prog 25 #[.string T, v] w fun e w' => e = .returned (.string ⟨(spG (spF bs) .out 0 T.data.toList).toArray⟩) ∧ Mod [] w w' := by
  have Hlen := Lib.hid (Lib.size_eq T)
  obtain ⟨b, o, c0, rfl, _⟩ := hb.at_ (i := 0) (List.getElem?_eq_getElem h0)
  have HB := Lib.hid hb
  obtain ⟨L, hL⟩ : ∃ L, L = bs.length := ⟨_, rfl⟩
  rw [← hL] at h0 hbl ⊢
  have HL := Lib.hid hL
  clear hb hL
  have hL0 : ¬ (L : Int) = 0 := by omega
  obtain ⟨G, hG⟩ : ∃ G, G = spG (spF bs) .out 0 T.data.toList := ⟨_, rfl⟩
  have hGl : G.length ≤ 120000 := by
    rw [hG]
    have := spG_le (spF bs) T.data.toList .out 0
    rw [← Lib.size_eq] at this; omega
  rw [← hG]
  have HG := Lib.hid hG
  clear hG
  go_enter Tryz.func25, Tryz.ntmps25
  go_wp2
  go_loopg [5, 6, 7, 8] T.size (fun g5 s5 s6 s7 s8 wr => ∃ (i k : Nat) (acc : Bs) (md : Bool) (v : Value), v = s5 ∧ s8 = .int .i64 i ∧ s6 = .bool md ∧ s7 = .int .i64 k ∧ i + g5 = T.size ∧ k ≤ i ∧ Lays w G (spF bs) T.data.toList (mdOf md) k i acc v wr)
  case atStart => exact ⟨0, 0, [], false, _, rfl, by go_num, rfl, by go_num, by omega, Nat.le_refl _, ⟨rfl, .inl ⟨rfl, rfl⟩⟩, Mod.refl _ _, by rw [HG.out]; rfl⟩
  case round =>
    obtain ⟨i, k, acc, md, v, hv5, rfl, rfl, rfl, hig, hki, hlay⟩ := hrel
    subst hv5
    have hab := hlay.le
    have hsz := hlay.2.1.size
    by_cases hjl : i < T.size
    · obtain ⟨c, hc⟩ : ∃ c, T.data.toList[i]? = some c := ⟨_, List.getElem?_eq_getElem (by rw [← Hlen.out]; omega)⟩
      have hce : T[i]'hjl = c := by
        have := byte_at T i hjl
        rw [hc] at this; exact (Option.some.inj this).symm
      obtain ⟨q, hq⟩ : ∃ q, q = k % L := ⟨_, rfl⟩
      have hqL : q < L := by rw [hq]; exact Nat.mod_lt _ h0
      have hqi : Int.tmod (k : Int) (L : Int) = (q : Int) := by rw [hq]; rfl
      obtain ⟨nv, hnv⟩ : ∃ nv, bs[q]? = some nv := ⟨_, List.getElem?_eq_getElem (by rw [← HL.out]; exact hqL)⟩
      obtain ⟨b', o', c', hbe, hcell⟩ := HB.out.at_ hnv
      have hfk : spF bs k = nv := by unfold spF; rw [← HL.out, ← hq, List.getD_eq_getElem?_getD, hnv]; rfl
      replace hcell : wr.cell? ⟨b, o + q, none⟩ = some (.int .i64 nv) := by
        injection hbe with e1; injection e1 with e1; injection e1 with e2 e3; subst e2; subst e3
        exact hlay.2.1.cell hcell (by simp)
      have H := Lib.hid hlay
      have HC := Lib.hid (And.intro hc hfk)
      clear hlay hc hfk hnv hbe hq
      have hqI : (q : Int) < (L : Int) := by omega
      rcases md with _ | _
      · by_cases c35 : c = 35
        · subst c35
          have hst := sp_start H.out.2.2 HC.out.1
          rw [HC.out.2] at hst
          have HST := Lib.hid (show Lays w G (spF bs) T.data.toList (.com nv) (k + 1) i acc v wr from ⟨H.out.1, H.out.2.1, hst⟩)
          clear hst
          go_wp2
          obtain ⟨wo, hwo⟩ : ∃ wo, wo = wr := ⟨_, rfl⟩
          subst hwo
          go_loopg [5, 8] (T.size - i) (fun g6 s5 s8 wx => ∃ (i2 : Nat) (acc2 : Bs) (v2 : Value), v2 = s5 ∧ s8 = .int .i64 i2 ∧ i2 + g6 = T.size ∧ i ≤ i2 ∧ Lays w G (spF bs) T.data.toList (.com nv) (k + 1) i2 acc2 v2 wx)
          case atStart => exact ⟨i, acc, v, rfl, rfl, by omega, Nat.le_refl _, HST.out⟩
          case round =>
            obtain ⟨i2, acc2, v2, hv5, rfl, hig2, hki2, hlay2⟩ := hrel
            subst hv5
            have hab2 := hlay2.le
            have hsz2 := hlay2.2.1.size
            have H2 := Lib.hid hlay2
            clear hlay2 hcell
            by_cases hjl2 : i2 < T.size
            · obtain ⟨d, hd⟩ : ∃ d, T.data.toList[i2]? = some d := ⟨_, List.getElem?_eq_getElem (by rw [← Hlen.out]; omega)⟩
              have hde : T[i2]'hjl2 = d := by
                have := byte_at T i2 hjl2
                rw [hd] at this; exact (Option.some.inj this).symm
              have HD := Lib.hid hd
              clear hd
              by_cases d10 : d = 10
              · subst d10
                by_cases hm1 : nv.tmod 4 = 1
                · have HE := Lib.hid (show (acc2 ++ [32, 9] ++ [10]) ++ spG (spF bs) .out (k + 1) (T.data.toList.drop (i2 + 1)) = G by
                    have h := sp_step H2.out.2.2 HD.out
                    simpa [spS, spN, hm1] using h)
                  go_wp2_with (at_builtin; first | (refine wp_adds rfl _ _ rfl w.heap.size _ acc2 rfl ((And.intro H2.out.1 H2.out.2.1).1.alloc _) [32, 9] wr 2 2 rfl rfl rfl (by simp; omega) hsz2 ?_; intro v3 w3 hown2 hg2; have H3 := Lib.hid (And.intro hown2 (grow_mod (And.intro H2.out.1 H2.out.2.1).1 (And.intro H2.out.1 H2.out.2.1).2 ((Mod.refl [] _).alloc _) hg2)); have hz3 := H3.out.2.size; clear hown2 hg2) | (refine wp_adds rfl _ _ rfl w.heap.size _ (acc2 ++ [32, 9]) rfl (H3.out.1.alloc _) [10] w3 1 1 rfl rfl rfl (by simp; omega) hz3 ?_; intro v4 w4 hown2 hg2; have H4 := Lib.hid (And.intro hown2 (grow_mod H3.out.1 H3.out.2 ((Mod.refl [] _).alloc _) hg2)); have hz4 := H4.out.2.size; clear hown2 hg2))
                  go_wp2
                  go_roundg (T.size - (i2 + 1))
                  case rel => exact ⟨i2 + 1, k + 1, _, false, _, rfl, by go_num, rfl, by go_num, by omega, by omega, H4.out.1, H4.out.2, HE.out⟩
                  case measure => omega
                · by_cases hm2 : nv.tmod 4 = 2
                  · have HE := Lib.hid (show (acc2 ++ [32, 35, 32, 34, 120] ++ [10]) ++ spG (spF bs) .out (k + 1) (T.data.toList.drop (i2 + 1)) = G by
                      have h := sp_step H2.out.2.2 HD.out
                      simpa [spS, spN, hm1, hm2] using h)
                    have kb1 : (nv.tmod 4 == 1) = false := by rw [beq_eq_false_iff_ne]; exact hm1
                    clear hm1
                    go_wp2_with (at_builtin; first | (refine wp_five rfl _ _ rfl w.heap.size _ acc2 rfl (And.intro H2.out.1 H2.out.2.1).1 ⟨#[32, 35, 32, 34, 120]⟩ [32, 35, 32, 34, 120] rfl rfl (by simp; omega) hsz2 ?_; intro v3 w3 hown2 hg2; have H3 := Lib.hid (And.intro hown2 (grow_mod (And.intro H2.out.1 H2.out.2.1).1 (And.intro H2.out.1 H2.out.2.1).2 (Mod.refl [] _) hg2)); have hz3 := H3.out.2.size; clear hown2 hg2) | (refine wp_adds rfl _ _ rfl w.heap.size _ (acc2 ++ [32, 35, 32, 34, 120]) rfl (H3.out.1.alloc _) [10] w3 1 1 rfl rfl rfl (by simp; omega) hz3 ?_; intro v4 w4 hown2 hg2; have H4 := Lib.hid (And.intro hown2 (grow_mod H3.out.1 H3.out.2 ((Mod.refl [] _).alloc _) hg2)); have hz4 := H4.out.2.size; clear hown2 hg2))
                    go_wp2
                    go_roundg (T.size - (i2 + 1))
                    case rel => exact ⟨i2 + 1, k + 1, _, false, _, rfl, by go_num, rfl, by go_num, by omega, by omega, H4.out.1, H4.out.2, HE.out⟩
                    case measure => omega
                  · have HE := Lib.hid (show (acc2 ++ [10]) ++ spG (spF bs) .out (k + 1) (T.data.toList.drop (i2 + 1)) = G by
                      have h := sp_step H2.out.2.2 HD.out
                      simpa [spS, spN, hm1, hm2] using h)
                    have kb1 : (nv.tmod 4 == 1) = false := by rw [beq_eq_false_iff_ne]; exact hm1
                    have kb2 : (nv.tmod 4 == 2) = false := by rw [beq_eq_false_iff_ne]; exact hm2
                    clear hm1 hm2
                    go_wp2_with (at_builtin; refine wp_adds rfl _ _ rfl w.heap.size _ acc2 rfl ((And.intro H2.out.1 H2.out.2.1).1.alloc _) [10] wr 1 1 rfl rfl rfl (by simp; omega) hsz2 ?_; intro v3 w3 hown2 hg2; have H3 := Lib.hid (And.intro hown2 (grow_mod (And.intro H2.out.1 H2.out.2.1).1 (And.intro H2.out.1 H2.out.2.1).2 ((Mod.refl [] _).alloc _) hg2)); have hz3 := H3.out.2.size; clear hown2 hg2)
                    go_wp2
                    go_roundg (T.size - (i2 + 1))
                    case rel => exact ⟨i2 + 1, k + 1, _, false, _, rfl, by go_num, rfl, by go_num, by omega, by omega, H3.out.1, H3.out.2, HE.out⟩
                    case measure => omega
              · have HE := Lib.hid (show (acc2 ++ [d]) ++ spG (spF bs) (.com nv) (k + 1) (T.data.toList.drop (i2 + 1)) = G by
                  have h := sp_step H2.out.2.2 HD.out
                  simpa [spS, d10] using h)
                have k10 := ne_nat 10 d10
                simp at k10
                go_wp2_with (at_builtin; refine wp_adds rfl _ _ rfl w.heap.size _ acc2 rfl ((And.intro H2.out.1 H2.out.2.1).1.alloc _) [d] wr 1 1 rfl rfl rfl (by simp; omega) hsz2 ?_; intro v3 w3 hown2 hg2; have H3 := Lib.hid (And.intro hown2 (grow_mod (And.intro H2.out.1 H2.out.2.1).1 (And.intro H2.out.1 H2.out.2.1).2 ((Mod.refl [] _).alloc _) hg2)); have hz3 := H3.out.2.size; clear hown2 hg2)
                go_wp2
                go_roundg (T.size - (i2 + 1))
                case rel => exact ⟨i2 + 1, _, _, rfl, by go_num, by omega, by omega, H3.out.1, H3.out.2, HE.out⟩
                case measure => omega
            · have hac := sp_end H2.out.2.2 (by rw [← Hlen.out]; omega)
              subst hac
              have hcv := conv_own H2.out.1
              go_wp2
              go_ret
              exact ⟨rfl, H2.out.2.1⟩
        · by_cases c10 : c = 10
          · subst c10
            have HD := HC.out.1
            clear c35
            by_cases hm1 : nv.tmod 4 = 1
            · have HE := Lib.hid (show (acc ++ [32, 9] ++ [10]) ++ spG (spF bs) .out (k + 1) (T.data.toList.drop (i + 1)) = G by
                have h := sp_step H.out.2.2 HC.out.1
                simpa [spS, mdOf, HC.out.2, spN, hm1] using h)
              go_wp2_with (at_builtin; first | (refine wp_adds rfl _ _ rfl w.heap.size _ acc rfl ((And.intro H.out.1 H.out.2.1).1.alloc _) [32, 9] wr 2 2 rfl rfl rfl (by simp; omega) hsz ?_; intro v3 w3 hown2 hg2; have H3 := Lib.hid (And.intro hown2 (grow_mod (And.intro H.out.1 H.out.2.1).1 (And.intro H.out.1 H.out.2.1).2 ((Mod.refl [] _).alloc _) hg2)); have hz3 := H3.out.2.size; clear hown2 hg2) | (refine wp_adds rfl _ _ rfl w.heap.size _ (acc ++ [32, 9]) rfl (H3.out.1.alloc _) [10] w3 1 1 rfl rfl rfl (by simp; omega) hz3 ?_; intro v4 w4 hown2 hg2; have H4 := Lib.hid (And.intro hown2 (grow_mod H3.out.1 H3.out.2 ((Mod.refl [] _).alloc _) hg2)); have hz4 := H4.out.2.size; clear hown2 hg2))
              go_wp2
              go_roundg (T.size - (i + 1))
              case rel => exact ⟨i + 1, k + 1, _, false, _, rfl, by go_num, rfl, by go_num, by omega, by omega, H4.out.1, H4.out.2, HE.out⟩
              case measure => omega
            · by_cases hm2 : nv.tmod 4 = 2
              · have HE := Lib.hid (show (acc ++ [32, 35, 32, 34, 120] ++ [10]) ++ spG (spF bs) .out (k + 1) (T.data.toList.drop (i + 1)) = G by
                  have h := sp_step H.out.2.2 HC.out.1
                  simpa [spS, mdOf, HC.out.2, spN, hm1, hm2] using h)
                have kb1 : (nv.tmod 4 == 1) = false := by rw [beq_eq_false_iff_ne]; exact hm1
                clear hm1
                go_wp2_with (at_builtin; first | (refine wp_five rfl _ _ rfl w.heap.size _ acc rfl (And.intro H.out.1 H.out.2.1).1 ⟨#[32, 35, 32, 34, 120]⟩ [32, 35, 32, 34, 120] rfl rfl (by simp; omega) hsz ?_; intro v3 w3 hown2 hg2; have H3 := Lib.hid (And.intro hown2 (grow_mod (And.intro H.out.1 H.out.2.1).1 (And.intro H.out.1 H.out.2.1).2 (Mod.refl [] _) hg2)); have hz3 := H3.out.2.size; clear hown2 hg2) | (refine wp_adds rfl _ _ rfl w.heap.size _ (acc ++ [32, 35, 32, 34, 120]) rfl (H3.out.1.alloc _) [10] w3 1 1 rfl rfl rfl (by simp; omega) hz3 ?_; intro v4 w4 hown2 hg2; have H4 := Lib.hid (And.intro hown2 (grow_mod H3.out.1 H3.out.2 ((Mod.refl [] _).alloc _) hg2)); have hz4 := H4.out.2.size; clear hown2 hg2))
                go_wp2
                go_roundg (T.size - (i + 1))
                case rel => exact ⟨i + 1, k + 1, _, false, _, rfl, by go_num, rfl, by go_num, by omega, by omega, H4.out.1, H4.out.2, HE.out⟩
                case measure => omega
              · have HE := Lib.hid (show (acc ++ [10]) ++ spG (spF bs) .out (k + 1) (T.data.toList.drop (i + 1)) = G by
                  have h := sp_step H.out.2.2 HC.out.1
                  simpa [spS, mdOf, HC.out.2, spN, hm1, hm2] using h)
                have kb1 : (nv.tmod 4 == 1) = false := by rw [beq_eq_false_iff_ne]; exact hm1
                have kb2 : (nv.tmod 4 == 2) = false := by rw [beq_eq_false_iff_ne]; exact hm2
                clear hm1 hm2
                go_wp2_with (at_builtin; refine wp_adds rfl _ _ rfl w.heap.size _ acc rfl ((And.intro H.out.1 H.out.2.1).1.alloc _) [10] wr 1 1 rfl rfl rfl (by simp; omega) hsz ?_; intro v3 w3 hown2 hg2; have H3 := Lib.hid (And.intro hown2 (grow_mod (And.intro H.out.1 H.out.2.1).1 (And.intro H.out.1 H.out.2.1).2 ((Mod.refl [] _).alloc _) hg2)); have hz3 := H3.out.2.size; clear hown2 hg2)
                go_wp2
                go_roundg (T.size - (i + 1))
                case rel => exact ⟨i + 1, k + 1, _, false, _, rfl, by go_num, rfl, by go_num, by omega, by omega, H3.out.1, H3.out.2, HE.out⟩
                case measure => omega
          · by_cases c32 : c = 32
            · subst c32
              clear c35 c10
              by_cases hm1 : nv.tmod 4 = 1
              · have HE := Lib.hid (show (acc ++ [32, 9] ++ [32]) ++ spG (spF bs) .out (k + 1) (T.data.toList.drop (i + 1)) = G by
                  have h := sp_step H.out.2.2 HC.out.1
                  simpa [spS, mdOf, HC.out.2, spB, hm1] using h)
                go_wp2_with (at_builtin; first | (refine wp_adds rfl _ _ rfl w.heap.size _ acc rfl ((And.intro H.out.1 H.out.2.1).1.alloc _) [32, 9] wr 2 2 rfl rfl rfl (by simp; omega) hsz ?_; intro v3 w3 hown2 hg2; have H3 := Lib.hid (And.intro hown2 (grow_mod (And.intro H.out.1 H.out.2.1).1 (And.intro H.out.1 H.out.2.1).2 ((Mod.refl [] _).alloc _) hg2)); have hz3 := H3.out.2.size; clear hown2 hg2) | (refine wp_adds rfl _ _ rfl w.heap.size _ (acc ++ [32, 9]) rfl (H3.out.1.alloc _) [32] w3 1 1 rfl rfl rfl (by simp; omega) hz3 ?_; intro v4 w4 hown2 hg2; have H4 := Lib.hid (And.intro hown2 (grow_mod H3.out.1 H3.out.2 ((Mod.refl [] _).alloc _) hg2)); have hz4 := H4.out.2.size; clear hown2 hg2))
                go_wp2
                go_roundg (T.size - (i + 1))
                case rel => exact ⟨i + 1, k + 1, _, false, _, rfl, by go_num, rfl, by go_num, by omega, by omega, H4.out.1, H4.out.2, HE.out⟩
                case measure => omega
              · have HE := Lib.hid (show (acc ++ [32]) ++ spG (spF bs) .out (k + 1) (T.data.toList.drop (i + 1)) = G by
                  have h := sp_step H.out.2.2 HC.out.1
                  simpa [spS, mdOf, HC.out.2, spB, hm1] using h)
                have kb1 : (nv.tmod 4 == 1) = false := by rw [beq_eq_false_iff_ne]; exact hm1
                clear hm1
                go_wp2_with (at_builtin; refine wp_adds rfl _ _ rfl w.heap.size _ acc rfl ((And.intro H.out.1 H.out.2.1).1.alloc _) [32] wr 1 1 rfl rfl rfl (by simp; omega) hsz ?_; intro v3 w3 hown2 hg2; have H3 := Lib.hid (And.intro hown2 (grow_mod (And.intro H.out.1 H.out.2.1).1 (And.intro H.out.1 H.out.2.1).2 ((Mod.refl [] _).alloc _) hg2)); have hz3 := H3.out.2.size; clear hown2 hg2)
                go_wp2
                go_roundg (T.size - (i + 1))
                case rel => exact ⟨i + 1, k + 1, _, false, _, rfl, by go_num, rfl, by go_num, by omega, by omega, H3.out.1, H3.out.2, HE.out⟩
                case measure => omega
            · by_cases c34 : c = 34
              · subst c34
                clear c35 c10 c32
                have HE := Lib.hid (show (acc ++ [34]) ++ spG (spF bs) .inq (k + 1) (T.data.toList.drop (i + 1)) = G by
                  have h := sp_step H.out.2.2 HC.out.1
                  simpa [spS, mdOf] using h)
                go_wp2_with (at_builtin; refine wp_adds rfl _ _ rfl w.heap.size _ acc rfl ((And.intro H.out.1 H.out.2.1).1.alloc _) [34] wr 1 1 rfl rfl rfl (by simp; omega) hsz ?_; intro v3 w3 hown2 hg2; have H3 := Lib.hid (And.intro hown2 (grow_mod (And.intro H.out.1 H.out.2.1).1 (And.intro H.out.1 H.out.2.1).2 ((Mod.refl [] _).alloc _) hg2)); have hz3 := H3.out.2.size; clear hown2 hg2)
                go_wp2
                go_roundg (T.size - (i + 1))
                case rel => exact ⟨i + 1, k + 1, _, true, _, rfl, by go_num, rfl, by go_num, by omega, by omega, H3.out.1, H3.out.2, HE.out⟩
                case measure => omega
              · have HE := Lib.hid (show (acc ++ [c]) ++ spG (spF bs) .out (k + 1) (T.data.toList.drop (i + 1)) = G by
                  have h := sp_step H.out.2.2 HC.out.1
                  simpa [spS, mdOf, c35, c10, c32, c34] using h)
                have k35 := ne_nat 35 c35
                have k10 := ne_nat 10 c10
                have k32 := ne_nat 32 c32
                have k34 := ne_nat 34 c34
                simp at k35 k10 k32 k34
                clear c35 c10 c32 c34
                go_wp2_with (at_builtin; refine wp_adds rfl _ _ rfl w.heap.size _ acc rfl ((And.intro H.out.1 H.out.2.1).1.alloc _) [c] wr 1 1 rfl rfl rfl (by simp; omega) hsz ?_; intro v3 w3 hown2 hg2; have H3 := Lib.hid (And.intro hown2 (grow_mod (And.intro H.out.1 H.out.2.1).1 (And.intro H.out.1 H.out.2.1).2 ((Mod.refl [] _).alloc _) hg2)); have hz3 := H3.out.2.size; clear hown2 hg2)
                go_wp2
                go_roundg (T.size - (i + 1))
                case rel => exact ⟨i + 1, k + 1, _, false, _, rfl, by go_num, rfl, by go_num, by omega, by omega, H3.out.1, H3.out.2, HE.out⟩
                case measure => omega
      · by_cases c92 : c = 92
        · subst c92
          by_cases hjl2 : i + 1 < T.size
          · obtain ⟨d, hd⟩ : ∃ d, T.data.toList[i + 1]? = some d := ⟨_, List.getElem?_eq_getElem (by rw [← Hlen.out]; omega)⟩
            have hde : T[i + 1]'hjl2 = d := by
              have := byte_at T (i + 1) hjl2
              rw [hd] at this; exact (Option.some.inj this).symm
            have HE := Lib.hid (show ((acc ++ [92]) ++ [d]) ++ spG (spF bs) .inq (k + 1) (T.data.toList.drop (i + 2)) = G by
              have h := sp_step H.out.2.2 HC.out.1
              have h2 := sp_step h (by simpa [spS, mdOf] using hd)
              simpa [spS, mdOf] using h2)
            clear hd
            have hj2 : (i : Int) + 1 < (T.size : Int) := by omega
            go_wp2_with (at_builtin; first | (refine wp_adds rfl _ _ rfl w.heap.size _ acc rfl ((And.intro H.out.1 H.out.2.1).1.alloc _) [92] wr 1 1 rfl rfl rfl (by simp; omega) hsz ?_; intro v3 w3 hown2 hg2; have H3 := Lib.hid (And.intro hown2 (grow_mod (And.intro H.out.1 H.out.2.1).1 (And.intro H.out.1 H.out.2.1).2 ((Mod.refl [] _).alloc _) hg2)); have hz3 := H3.out.2.size; clear hown2 hg2) | (refine wp_adds rfl _ _ rfl w.heap.size _ (acc ++ [92]) rfl (H3.out.1.alloc _) [d] w3 1 1 rfl rfl rfl (by simp; omega) hz3 ?_; intro v4 w4 hown2 hg2; have H4 := Lib.hid (And.intro hown2 (grow_mod H3.out.1 H3.out.2 ((Mod.refl [] _).alloc _) hg2)); have hz4 := H4.out.2.size; clear hown2 hg2))
            go_wp2
            go_roundg (T.size - (i + 2))
            case rel => exact ⟨i + 2, k + 1, _, true, _, rfl, by go_num, rfl, by go_num, by omega, by omega, H4.out.1, H4.out.2, HE.out⟩
            case measure => omega
          · have hj2 : ¬ (i : Int) + 1 < (T.size : Int) := by omega
            have HE := Lib.hid (show (acc ++ [92]) ++ spG (spF bs) .inq (k + 1) (T.data.toList.drop (i + 1)) = G by
              have h := sp_step H.out.2.2 HC.out.1
              have he : T.data.toList.drop (i + 1) = [] := List.drop_eq_nil_of_le (by rw [← Hlen.out]; omega)
              rw [he] at h ⊢
              simpa [spS, mdOf, spG] using h)
            go_wp2_with (at_builtin; refine wp_adds rfl _ _ rfl w.heap.size _ acc rfl ((And.intro H.out.1 H.out.2.1).1.alloc _) [92] wr 1 1 rfl rfl rfl (by simp; omega) hsz ?_; intro v3 w3 hown2 hg2; have H3 := Lib.hid (And.intro hown2 (grow_mod (And.intro H.out.1 H.out.2.1).1 (And.intro H.out.1 H.out.2.1).2 ((Mod.refl [] _).alloc _) hg2)); have hz3 := H3.out.2.size; clear hown2 hg2)
            go_wp2
            go_roundg (T.size - (i + 1))
            case rel => exact ⟨i + 1, k + 1, _, true, _, rfl, by go_num, rfl, by go_num, by omega, by omega, H3.out.1, H3.out.2, HE.out⟩
            case measure => omega
        · by_cases c34 : c = 34
          · subst c34
            clear c92
            have HE := Lib.hid (show (acc ++ [34]) ++ spG (spF bs) .out (k + 1) (T.data.toList.drop (i + 1)) = G by
              have h := sp_step H.out.2.2 HC.out.1
              simpa [spS, mdOf] using h)
            go_wp2_with (at_builtin; refine wp_adds rfl _ _ rfl w.heap.size _ acc rfl ((And.intro H.out.1 H.out.2.1).1.alloc _) [34] wr 1 1 rfl rfl rfl (by simp; omega) hsz ?_; intro v3 w3 hown2 hg2; have H3 := Lib.hid (And.intro hown2 (grow_mod (And.intro H.out.1 H.out.2.1).1 (And.intro H.out.1 H.out.2.1).2 ((Mod.refl [] _).alloc _) hg2)); have hz3 := H3.out.2.size; clear hown2 hg2)
            go_wp2
            go_roundg (T.size - (i + 1))
            case rel => exact ⟨i + 1, k + 1, _, false, _, rfl, by go_num, rfl, by go_num, by omega, by omega, H3.out.1, H3.out.2, HE.out⟩
            case measure => omega
          · by_cases c10 : c = 10
            · subst c10
              clear c92 c34
              have HE := Lib.hid (show (acc ++ [10]) ++ spG (spF bs) .out (k + 1) (T.data.toList.drop (i + 1)) = G by
                have h := sp_step H.out.2.2 HC.out.1
                simpa [spS, mdOf] using h)
              go_wp2_with (at_builtin; refine wp_adds rfl _ _ rfl w.heap.size _ acc rfl ((And.intro H.out.1 H.out.2.1).1.alloc _) [10] wr 1 1 rfl rfl rfl (by simp; omega) hsz ?_; intro v3 w3 hown2 hg2; have H3 := Lib.hid (And.intro hown2 (grow_mod (And.intro H.out.1 H.out.2.1).1 (And.intro H.out.1 H.out.2.1).2 ((Mod.refl [] _).alloc _) hg2)); have hz3 := H3.out.2.size; clear hown2 hg2)
              go_wp2
              go_roundg (T.size - (i + 1))
              case rel => exact ⟨i + 1, k + 1, _, false, _, rfl, by go_num, rfl, by go_num, by omega, by omega, H3.out.1, H3.out.2, HE.out⟩
              case measure => omega
            · have HE := Lib.hid (show (acc ++ [c]) ++ spG (spF bs) .inq (k + 1) (T.data.toList.drop (i + 1)) = G by
                have h := sp_step H.out.2.2 HC.out.1
                simpa [spS, mdOf, c92, c34, c10] using h)
              have k92 := ne_nat 92 c92
              have k34 := ne_nat 34 c34
              have k10 := ne_nat 10 c10
              simp at k92 k34 k10
              clear c92 c34 c10
              go_wp2_with (at_builtin; refine wp_adds rfl _ _ rfl w.heap.size _ acc rfl ((And.intro H.out.1 H.out.2.1).1.alloc _) [c] wr 1 1 rfl rfl rfl (by simp; omega) hsz ?_; intro v3 w3 hown2 hg2; have H3 := Lib.hid (And.intro hown2 (grow_mod (And.intro H.out.1 H.out.2.1).1 (And.intro H.out.1 H.out.2.1).2 ((Mod.refl [] _).alloc _) hg2)); have hz3 := H3.out.2.size; clear hown2 hg2)
              go_wp2
              go_roundg (T.size - (i + 1))
              case rel => exact ⟨i + 1, k + 1, _, true, _, rfl, by go_num, rfl, by go_num, by omega, by omega, H3.out.1, H3.out.2, HE.out⟩
              case measure => omega
    · have hac := sp_end hlay.2.2 (by rw [← Hlen.out]; omega)
      subst hac
      have hcv := conv_own hlay.1
      have hm := Lib.hid hlay.2.1
      clear hlay
      go_wp2
      go_ret
      exact ⟨rfl, hm.out⟩
end Go.Proofs.YtjieelmbgfnllaaGreatDoor
