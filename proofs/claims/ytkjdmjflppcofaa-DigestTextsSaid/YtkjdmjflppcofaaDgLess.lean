/- bytes.Compare, and the program's order of digests. -/
import Derived.Test.YtkjdmjflppcofaaDgRefPa
import Derived.Lib.BytesEntry
namespace Go.Proofs.Ytkjdmjflppcofaa
open Go.ChangeShapes Go.WideShapes Go.ChangeAt Go.RowKit
set_option linter.unusedVariables false

theorem run_bytesOf_rd {P : Program} (w : World) (A : Option Addr) (n c : Nat) (xs : List UInt8) (hr : Rd w A (bs xs)) (hn : xs.length = n) :
    (Extern.Bytes.bytesOf (.slice A n c)).run P w = .ok ⟨xs.toArray⟩ w := by
  subst hn
  rcases A with _ | a
  · have hl : xs = [] := by
      cases xs with
      | nil => rfl
      | cons x l =>
        obtain ⟨g, off, h, _⟩ := hr (by simp [bs])
        cases h
    subst hl
    rfl
  · have h2 := Go.Lib.run_loadBytesX (P := P) w (xs.map fun u => (u.toNat : Int)) a .empty (fun j x hj => by
      obtain ⟨u, hu, rfl⟩ : ∃ u, xs[j]? = some u ∧ (u.toNat : Int) = x := by simpa using hj
      obtain ⟨g, off, h, _, hc⟩ := hr (by cases xs <;> simp_all [bs])
      injection h with h
      subst h
      have e : (⟨g, off, none⟩ : Addr).add j = ⟨g, off + j, none⟩ := by unfold Addr.add; split <;> simp_all
      rw [e]
      exact hc j _ (by simp [bs, hu, bv]))
    rw [List.length_map] at h2
    show (Extern.Bytes.loadBytes a xs.length .empty).run P w = _
    rw [h2]
    congr 1
    apply ByteArray.ext
    show (#[] : Array UInt8) ++ (Go.Lib.bytesOf (xs.map fun u => (u.toNat : Int))).toArray = xs.toArray
    simp [Go.Lib.bytesOf]
    refine (List.map_congr_left fun u _ => ?_).trans (List.map_id xs)
    simp
theorem run_compare_rd {P : Program} (w : World) (A B : Option Addr) (n c m d : Nat) (xs ys : List UInt8) (hx : Rd w A (bs xs)) (hy : Rd w B (bs ys)) (hn : xs.length = n) (hm : ys.length = m) :
    (Extern.BytealgCompare.compare #[.slice A n c, .slice B m d]).run P w = .ok (.int .i64 (Go.Lib.compareBytes xs ys)) w := by
  change Sem.run P (do pure (goInt (Extern.BytealgCompare.cmp (← Extern.Bytes.bytesOf (.slice A n c)) (← Extern.Bytes.bytesOf (.slice B m d))))) w = _
  simp only [Sem.run_bind, run_bytesOf_rd w A n c xs hx hn, run_bytesOf_rd w B m d ys hy hm, Sem.run_pure, Result.andThen]
  rw [Go.Lib.cmp_eq]
  rfl

set_option maxHeartbeats 1000000 in
theorem bytes_Compare (A B : Option Addr) (n c m d : Nat) (xs ys : List UInt8) (w : World) (hx : Rd w A (bs xs)) (hy : Rd w B (bs ys)) (hn : xs.length = n) (hm : ys.length = m) :
    Calls Try.prog 40 #[.slice A n c, .slice B m d] w fun e w' => e = .returned (.int .i64 (Go.Lib.compareBytes xs ys)) ∧ w' = w := by
  have HX := Go.Lib.hid hx
  have HY := Go.Lib.hid hy
  have HN := Go.Lib.hid hn
  have HM := Go.Lib.hid hm
  clear hx hy hn hm
  go_enter Try.func40, Try.ntmps40
  go_wp2
  rw [run_callFunc_extern Try.func43 (by kernel_rfl) (by kernel_rfl) (by kernel_rfl) (e := Extern.BytealgCompare.compare) (by kernel_rfl), run_compare_rd w A B n c m d xs ys HX.out HY.out HN.out HM.out]
  simp only [Result.andThen]
  rw [Oper.upon_value]
  go_wp2
  go_ret
  exact ⟨rfl, rfl⟩

/-- 32 bytes as a list. -/
def digL (f : Nat → Int) : List UInt8 := (List.range 32).map fun i => UInt8.ofNat (f i).toNat
theorem digL_length (f : Nat → Int) : (digL f).length = 32 := by simp [digL]
theorem bv_ofNat (x : Int) (h : 0 ≤ x ∧ x ≤ 255) : bv (UInt8.ofNat x.toNat) = .int .u8 x := by
  unfold bv
  rw [UInt8.toNat_ofNat', Nat.mod_eq_of_lt (by omega), Int.toNat_of_nonneg h.1]
theorem dA_bs (f : Nat → Int) (hf : ∀ i, 0 ≤ f i ∧ f i ≤ 255) : (dA f).toList = bs (digL f) := by
  simp only [dA, bs, digL, List.map_map]
  refine List.map_congr_left fun i _ => ?_
  exact (bv_ofNat _ (hf i)).symm

theorem less_list (f g : Nat → Int) (hf : ∀ i, 0 ≤ f i ∧ f i ≤ 255) (hg : ∀ i, 0 ≤ g i ∧ g i ≤ 255) : ∀ n i,
    decide (Go.Lib.compareBytes ((List.range' i n).map fun i => UInt8.ofNat (f i).toNat) ((List.range' i n).map fun i => UInt8.ofNat (g i).toNat) < 0) = lessK f g n i
  | 0, i => by simp [Go.Lib.compareBytes, lessK]
  | n + 1, i => by
    have ih := less_list f g hf hg n (i + 1)
    have e : ∀ a b : Int, 0 ≤ a ∧ a ≤ 255 → 0 ≤ b ∧ b ≤ 255 → ((UInt8.ofNat a.toNat < UInt8.ofNat b.toNat) ↔ a < b) := fun a b ha hb => by
      rw [UInt8.lt_iff_toNat_lt, UInt8.toNat_ofNat', UInt8.toNat_ofNat', Nat.mod_eq_of_lt (by omega), Nat.mod_eq_of_lt (by omega)]
      omega
    simp only [List.range'_succ, List.map_cons, Go.Lib.compareBytes, lessK, e _ _ (hf i) (hg i), e _ _ (hg i) (hf i)]
    by_cases h1 : f i = g i
    · rw [if_neg (by omega), if_neg (by omega), if_pos h1]
      exact ih
    · by_cases h2 : f i < g i
      · rw [if_pos h2, if_neg h1]
        simp [h2]
      · rw [if_neg h2, if_pos (by omega), if_neg h1]
        simp [h2]
theorem less_dig (f g : Nat → Int) (hf : ∀ i, 0 ≤ f i ∧ f i ≤ 255) (hg : ∀ i, 0 ≤ g i ∧ g i ≤ 255) : decide (Go.Lib.compareBytes (digL f) (digL g) < 0) = lessK f g 32 0 := by
  rw [← less_list f g hf hg 32 0]
  simp only [digL, List.range_eq_range']

set_option maxHeartbeats 1000000 in
theorem digest_Less (f g : Nat → Int) (hf : ∀ i, 0 ≤ f i ∧ f i ≤ 255) (hg : ∀ i, 0 ≤ g i ∧ g i ≤ 255) (w : World) :
    Calls Try.prog 29 #[.agg (dA f), .agg (dA g)] w fun e w' => e = .returned (.bool (lessK f g 32 0)) ∧ Below w.heap.size w w' := by
  obtain ⟨b, hb⟩ : ∃ b, b = lessK f g 32 0 := ⟨_, rfl⟩
  obtain ⟨r, hr⟩ : ∃ r, r = Go.Lib.compareBytes (digL f) (digL g) := ⟨_, rfl⟩
  have hbr : b = decide (r < 0) := by rw [hb, hr]; exact (less_dig f g hf hg).symm
  rw [← hb]
  have HB := Go.Lib.hid hbr
  have HR := Go.Lib.hid hr
  clear hb hbr hr
  have HA : Hid (Rd ((w.alloc (.cells (dA f) 28)).alloc (.cells (dA g) 28)) (some ⟨w.heap.size, 0, none⟩) (bs (digL f))) := Go.Lib.hid (by
    rw [← dA_bs f hf]
    exact (rd_new w (dA f) _).keep (by simp) fun g' hg' hl => Below.heap_alloc _ _ _ hl)
  have HC : Hid (Rd ((w.alloc (.cells (dA f) 28)).alloc (.cells (dA g) 28)) (some ⟨w.heap.size + 1, 0, none⟩) (bs (digL g))) := Go.Lib.hid (by
    rw [← dA_bs g hg]
    have := rd_new (w.alloc (.cells (dA f) 28)) (dA g) 28
    simpa using this)
  clear hf hg
  go_enter Try.func29, Try.ntmps29
  go_wp2
  go_region_with (go_at_call 40; refine (bytes_Compare _ _ _ _ _ _ (digL f) (digL g) _ (Rd.drew HA.out) (Rd.drew HC.out) (digL_length f) (digL_length g)).mono ?_; rintro e w' ⟨rfl, rfl⟩; rw [← HR.out])
  all_goals
    go_wp2
    go_ret
    refine ⟨?_, ?_⟩
    · rw [HB.out]
      rfl
    · exact bdr (bal (bal (Below.refl _ _) _) _)

end Go.Proofs.Ytkjdmjflppcofaa
