/- The law ScriptBehind, walked: true at all inputs. Conditions: the table of powers and errors.errorType are laid; internal/bytealg's variable MaxLen holds an integer. -/
import Derived.Test.YtjieelmbgfnllaaGreatDoorScErrs
namespace Go.Proofs.YtjieelmbgfnllaaGreatDoor
open Go.RowKit Scr

/-- Parse, by what its answer is. -/
theorem parse_split {w w1 : World} {t : Bs} {e : Ending} (hp : ParsePost w t e w1) : ∃ x v, e = .returned (.tuple #[x, v]) ∧ Mod [] w w1 ∧ (∀ f, parseP t = .error f → ∃ b, v = .iface 92 (.pointer (some ⟨b, 0, none⟩))) ∧ (∀ l, parseP t = .ok l → v = .nilIface) := by
  unfold ParsePost at hp
  rcases hq : parseP t with f | l
  · rw [hq] at hp
    obtain ⟨v', he, ⟨b, rfl, _, _⟩, hm⟩ := hp
    exact ⟨_, _, he, hm, fun f' _ => ⟨b, rfl⟩, fun l h => by cases h⟩
  · rw [hq] at hp
    obtain ⟨v', rs, he, _, _, _, _, hm⟩ := hp
    exact ⟨_, _, he, hm, fun f h => by (cases h), fun l' _ => rfl⟩
theorem fl_guard : Tryz.prog.eqGuardType Tryz.prog.depth 28 = false := by kernel_rfl
theorem fl_held : Tryz.prog.stoodInHeld 28 = false := by kernel_rfl
theorem fl_fields : Tryz.prog.underlying 28 = some (.struct (Tryz.prog.fieldsOf 28)) := by kernel_rfl
theorem fl_eq (a b c : Int) (X : World) : (binOp .eql 28 (.agg #[.int .i64 a, .int .i64 b, .int .i64 c]) (.agg #[.int .i64 a, .int .i64 b, .int .i64 c])).run Tryz.prog X = .ok (.bool true) X := by
  have h1 := fl_fields
  have h2 := fl_held
  have h3 := Tryz.underlying28
  simp only [run_eql_struct, run_equalIn_agg X 9999 _ _ _ h1 h2]
  have h4 := Tryz.underlying3
  simp [go_sem, Program.fieldsOf, h3, h4, Op.eqFields]

theorem count_snoc {l : Bs} {j : Nat} {c : UInt8} (h : l[j]? = some c) : (l.take (j + 1)).count 10 = (l.take j).count 10 + if c = 10 then 1 else 0 := by
  rw [take_snoc l j c h, List.count_append]
  by_cases hc : c = 10
  · subst hc; simp
  · simp [hc]
theorem law_text (T M : ByteArray) : ((T ++ (⟨#[10]⟩ : ByteArray)) ++ M).data.toList = T.data.toList ++ 10 :: M.data.toList := by
  rw [app_str, app_str, List.append_assoc]; rfl

set_option maxRecDepth 100000 in
set_option maxHeartbeats 4000000 in
theorem behind_walk (w : World) (T M : ByteArray) (m : Int) (hT : T.size ≤ 140737488355328) (hM : M.size ≤ 140737488355328) (ht : tabIs w) (hg : errTypeIs w) (hm : w.cell? ⟨3, 0, none⟩ = some (.int .i64 m)) :
    Calls Tryz.prog 9 #[.string T, .string M] w fun e w' => e = .returned (.bool true) ∧ Mod [] w w' := by
  have HS := Lib.hid (And.intro ht (And.intro hg hm))
  clear ht hg hm
  by_cases hlen : 60000 < T.size + M.size
  · have hl1 : (60000 : Int) < (T.size : Int) + (M.size : Int) := by omega
    go_enter Tryz.func9, Tryz.ntmps9
    go_wp2
    go_ret
    exact ⟨rfl, Mod.refl _ _⟩
  · have hl1 : ¬ (60000 : Int) < (T.size : Int) + (M.size : Int) := by omega
    have hl3 : T.size ≤ 60000 := by omega
    have hl4 : M.size ≤ 60000 := by omega
    go_enter Tryz.func9, Tryz.ntmps9
    go_wp2_with fail
    refine (known_walk w m HS.out.1 HS.out.2.1 HS.out.2.2).mono ?_
    rintro e w1 ⟨rfl, hm1⟩
    have H1 := Lib.hid hm1
    clear hm1
    go_wp2_with fail
    refine (parse_walk w1 T m (H1.out.cell HS.out.2.1 (by simp)) (H1.out.cell HS.out.2.2 (by simp))).mono ?_
    intro e w2 hp
    obtain ⟨x2, v2, rfl, hm2, hv2, hv2'⟩ := parse_split hp
    have HP := Lib.hid hp
    have H2 := Lib.hid (H1.out.trans hm2)
    clear hp hm2
    go_wp2_with fail
    refine (told_parse w1 w2 _ x2 v2 (H1.out.cell HS.out.2.1 (by simp)) HP.out).mono ?_
    rintro e w3 ⟨rfl, hm3⟩
    have H3 := Lib.hid (H2.out.trans hm3)
    clear hm3
    rcases hq : parseP T.data.toList with f | l
    · obtain ⟨mb, rfl⟩ := hv2 f hq
      have hff : foldF (parseP T.data.toList) = f := by rw [hq]; rfl
      simp only [foldF, faultV]
      have HQ := Lib.hid hq
      clear hq hv2 hv2' hff
      have hb4 := Blk.new w3 28 #[.int .i64 f.1, .int .i64 f.2.1, .int .i64 f.2.2]
      have hm4 := H3.out.alloc (.cells #[.int .i64 f.1, .int .i64 f.2.1, .int .i64 f.2.2] 28)
      go_wp2
      generalize (w3.alloc (.cells #[.int .i64 f.1, .int .i64 f.2.1, .int .i64 f.2.2] 28)) = W0 at hb4 hm4 ⊢
      have H4 := Lib.hid (And.intro hb4 hm4)
      clear hb4 hm4
      obtain ⟨q, hqd⟩ : ∃ q, q = w3.heap.size := ⟨_, rfl⟩
      rw [← hqd] at H4 ⊢
      clear hqd
      go_loopw [9, 10] (fun s9 s10 wr => ∃ j : Nat, s10 = .int .i64 j ∧ s9 = .int .i64 (((T.data.toList.take j).count 10 : Nat) + 1 : Int) ∧ j ≤ T.size ∧ wr = W0) (fun _ s10 _ => T.size - (RowKit.intOf s10).toNat)
      case atStart => exact ⟨0, by go_num, by simp, Nat.zero_le _, rfl⟩
      case round =>
        obtain ⟨j, rfl, rfl, hj, rfl⟩ := hrel
        have hcle : (T.data.toList.take j).count 10 ≤ 60000 := by
          have h1 := List.count_le_length (a := (10 : UInt8)) (l := T.data.toList.take j)
          have h2 : (T.data.toList.take j).length ≤ T.size := by rw [List.length_take, ← Lib.size_eq]; omega
          omega
        by_cases hjl : j < T.size
        · obtain ⟨c, hc⟩ : ∃ c, T.data.toList[j]? = some c := ⟨_, List.getElem?_eq_getElem (by rw [← Lib.size_eq]; omega)⟩
          have hce : T[j]'hjl = c := by
            have := byte_at T j hjl
            rw [hc] at this; exact (Option.some.inj this).symm
          have HC := Lib.hid (count_snoc hc)
          clear hc
          by_cases h10 : c = 10
          · subst h10
            go_wp2
            go_roundw
            case rel => exact ⟨j + 1, by go_num, by rw [HC.out]; simp, by omega, trivial⟩
            case measure => simp [RowKit.intOf]; omega
          · have k10 : ((c.toNat : Int) == 10) = false := by
              rw [beq_eq_false_iff_ne]; intro e; exact h10 (UInt8.toNat_inj.1 (by simp; omega))
            rw [if_neg h10] at HC
            clear h10
            go_wp2
            go_roundw
            case rel => exact ⟨j + 1, by go_num, by rw [HC.out]; simp, by omega, trivial⟩
            case measure => simp [RowKit.intOf]; omega
        · have hall : T.data.toList.take j = T.data.toList := List.take_of_length_le (by rw [← Lib.size_eq]; omega)
          obtain ⟨cnt, hcnt⟩ : ∃ cnt, cnt = (T.data.toList.take j).count 10 := ⟨_, rfl⟩
          rw [← hcnt] at hcle ⊢
          rw [hall] at hcnt
          have HCN := Lib.hid hcnt
          clear hall hcnt
          go_wp2_with fail
          refine (parse_of _ _ _ (law_text T M) m (H4.out.2.cell HS.out.2.1 (by simp)) (H4.out.2.cell HS.out.2.2 (by simp))).mono ?_
          intro e w5 hp
          obtain ⟨x5, v5, rfl, hm5, hv5, hv5'⟩ := parse_split hp
          have HP5 := Lib.hid hp
          have H5 := Lib.hid (And.intro (hm5.blk H4.out.1 (by simp)) (H4.out.2.trans hm5))
          clear hp hm5 hv5 hv5'
          go_wp2_with fail
          refine (told_parse wr w5 _ x5 v5 (H4.out.2.cell HS.out.2.1 (by simp)) HP5.out).mono ?_
          rintro e w6 ⟨rfl, hm6⟩
          have HG := Lib.hid (behind_law (text := T.data.toList) (more := M.data.toList) (by rw [← Lib.size_eq, ← Lib.size_eq]; omega) HQ.out)
          obtain ⟨g, hgd⟩ : ∃ g, g = foldF (parseP (T.data.toList ++ 10 :: M.data.toList)) := ⟨_, rfl⟩
          have HGD := Lib.hid hgd
          rw [← hgd]
          clear hgd
          have hb6 := hm6.blk H5.out.1 (by simp)
          have hb7 := hb6.alloc (.cells #[.int .i64 g.1, .int .i64 g.2.1, .int .i64 g.2.2] 28)
          have hb8 := Blk.new w6 28 #[.int .i64 g.1, .int .i64 g.2.1, .int .i64 g.2.2]
          have hm7 := (H5.out.2.trans hm6).alloc (.cells #[.int .i64 g.1, .int .i64 g.2.1, .int .i64 g.2.2] 28)
          have H7 := Lib.hid (And.intro hb7 (And.intro hb8 hm7))
          have hq0 := hb6.cell 0
          have hq1 := hb6.cell 1
          have hq2 := hb6.cell 2
          have hql := hb6.lt
          simp at hq0 hq1 hq2
          clear hb6 hb7 hb8 hm7 hm6
          simp only [faultV]
          by_cases hlast : f.2.2 = 204 ∧ f.1 = cnt + 1
          · have hl1' : ((f.2.2 : Int) == 204) = true := by simp; omega
            have hl2' : ((f.1 : Int) == (cnt : Int) + 1) = true := by simp; omega
            clear hlast
            go_wp2
            go_ret
            exact ⟨rfl, H7.out.2.2⟩
          · have hfg : g = f := by
              rcases HG.out with h | h
              · exact absurd ⟨h.1, by rw [HCN.out]; exact h.2⟩ hlast
              · rw [HGD.out, h]; rfl
            subst hfg
            have heq := fl_eq g.1 g.2.1 g.2.2
            have hgu := fl_guard
            by_cases h204 : g.2.2 = 204
            · have hl1' : ((g.2.2 : Int) == 204) = true := by simp; omega
              have hl2' : ((g.1 : Int) == (cnt : Int) + 1) = false := by simp; omega
              clear hlast h204
              go_wp2
              go_ret
              exact ⟨rfl, H7.out.2.2⟩
            · have hl1' : ((g.2.2 : Int) == 204) = false := by simp; omega
              clear hlast h204
              go_wp2
              go_ret
              exact ⟨rfl, H7.out.2.2⟩
    · have e2 := hv2' l hq
      subst e2
      clear hq hv2 hv2'
      simp only [foldF, faultV]
      go_wp2
      go_ret
      exact ⟨rfl, H3.out.alloc _⟩
end Go.Proofs.YtjieelmbgfnllaaGreatDoor
