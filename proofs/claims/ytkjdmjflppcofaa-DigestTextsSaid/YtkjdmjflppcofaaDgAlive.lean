/- What the laws of the digest call besides: Same, alive. -/
import Derived.Test.YtkjdmjflppcofaaDgLess
import Derived.Test.YtkjdmjflppcofaaDgRef
import Derived.Lib.LazyBuf
namespace Go.Proofs.Ytkjdmjflppcofaa
open Go.ChangeShapes Go.WideShapes Go.ChangeAt Go.RowKit
set_option linter.unusedVariables false

theorem conv_bs {P : Program} (w : World) (src e dst : TypeId) (hs : P.underlying src = some (.slice e)) (he : P.underlying e = some (.int .u8)) (hd : P.underlying dst = some .string) (A : Option Addr) (n c : Nat) (xs : List UInt8)
    (hr : Rd w A (bs xs)) (hn : xs.length = n) : (convert src dst (.slice A n c)).run P w = .ok (.string ⟨xs.toArray⟩) w := by
  have h := conv_rd (P := P) w src e dst hs he hd A n c (xs.map fun u => (u.toNat : Int)) (by
    have e : intC (xs.map fun u => (u.toNat : Int)) = bs xs := by simp [intC, bs, bv, Function.comp_def]
    rw [e]; exact hr) (by simpa using hn)
  rw [h, Go.Lib.Lz.strOfNums_map]

set_option maxHeartbeats 1000000 in
theorem ref_Same (A B : Option Addr) (n c m d : Nat) (xs ys : List UInt8) (w : World) (hx : Rd w A (bs xs)) (hy : Rd w B (bs ys)) (hn : xs.length = n) (hm : ys.length = m) :
    Calls Try.prog 19 #[.slice A n c, .slice B m d] w fun e w' => e = .returned (.bool (xs == ys)) ∧ w' = w := by
  have hc1 := conv_bs (P := Try.prog) w 26 5 9 Try.underlying26 Try.underlying5 Try.underlying9 A n c xs hx hn
  have hc2 := conv_bs (P := Try.prog) w 26 5 9 Try.underlying26 Try.underlying5 Try.underlying9 B m d ys hy hm
  clear hx hy hn hm
  go_enter Try.func19, Try.ntmps19
  go_wp2_with fail
  go_ret
  exact ⟨rfl, rfl⟩

/-- A printed digest, read again. -/
theorem sb_str (l : List Int) (hl : ∀ x ∈ l, 0 ≤ x ∧ x ≤ 255) (i : Nat) (h : i < l.length) : sb (strOfNums l) i = l.getD i 0 := by
  have hs : i < (strOfNums l).size := by rw [strOfNums_size]; exact h
  rw [← sb_eq _ _ hs]
  have e : (strOfNums l)[i]'hs = UInt8.ofNat (l[i]'h).toNat := by
    show (strOfNums l).data[i]'_ = _
    simp [strOfNums]
  have hb := hl _ (List.getElem_mem h)
  rw [e, UInt8.toNat_ofNat', Nat.mod_eq_of_lt (by omega), Int.toNat_of_nonneg hb.1]
  simp [List.getD, h]
theorem hexI_bd (f : Nat → Int) (hf : ∀ i, 0 ≤ f i ∧ f i ≤ 255) : ∀ k, ∀ x ∈ hexI f k, 0 ≤ x ∧ x ≤ 255
  | 0, x, h => by simp [hexI] at h
  | k + 1, x, h => by
    have := hf k
    have h1 := hexd_bd (f k / 16) (by omega) (by omega)
    have h2 := hexd_bd (f k % 16) (by omega) (by omega)
    simp only [hexI, List.mem_append, List.mem_cons, List.not_mem_nil, or_false] at h
    rcases h with h | rfl | rfl
    · exact hexI_bd f hf k x h
    · omega
    · omega
theorem back_at (f : Nat → Int) (hf : ∀ i, 0 ≤ f i ∧ f i ≤ 255) (i : Nat) (hi : i < 32) :
    sb (strOfNums (hexI f 32)) (2 * i) = hexd (f i / 16) ∧ sb (strOfNums (hexI f 32)) (2 * i + 1) = hexd (f i % 16) := by
  have h := hexI_get f 32 i hi
  have hl := hexI_length f 32
  exact ⟨(sb_str _ (hexI_bd f hf 32) _ (by omega)).trans h.1, (sb_str _ (hexI_bd f hf 32) _ (by omega)).trans h.2⟩
theorem back_ok (f : Nat → Int) (hf : ∀ i, 0 ≤ f i ∧ f i ≤ 255) : okHex (sb (strOfNums (hexI f 32))) 64 := by
  intro i hi
  have hb := back_at f hf (i / 2) (by omega)
  have := hf (i / 2)
  rcases (by omega : i = 2 * (i / 2) ∨ i = 2 * (i / 2) + 1) with h | h
  · rw [h, hb.1, digit_hexd _ (by omega) (by omega)]
    omega
  · rw [h, hb.2, digit_hexd _ (by omega) (by omega)]
    omega
theorem dA_congr {f g : Nat → Int} (h : ∀ i, i < 32 → f i = g i) : dA f = dA g := by
  unfold dA
  congr 1
  exact List.map_congr_left fun i hi => by rw [h i (by simpa using hi)]
theorem back_pv (f : Nat → Int) (hf : ∀ i, 0 ≤ f i ∧ f i ≤ 255) : digV (pvI (sb (strOfNums (hexI f 32)))) = .agg (dA f) := by
  show Value.agg (dA _) = _
  rw [dA_congr fun i hi => ?_]
  have hb := back_at f hf i hi
  have := hf i
  unfold pvI
  rw [hb.1, hb.2, digit_hexd _ (by omega) (by omega), digit_hexd _ (by omega) (by omega)]
  omega
theorem back_size (f : Nat → Int) : (strOfNums (hexI f 32)).size = 64 := by rw [strOfNums_size, hexI_length]

theorem dig_nil : digB [] 0 ≠ 0 := by decide +kernel
theorem eqD_nil : eqD (digB []) zeroF = false := by
  have h : (digB [] 0 == zeroF 0) = false := by
    rw [beq_eq_false_iff_ne]
    exact dig_nil
  unfold eqD
  rw [List.range_succ_eq_map, List.all_cons, h]
  rfl
theorem zeroF_bd : ∀ i, 0 ≤ zeroF i ∧ zeroF i ≤ 255 := fun i => by simp [zeroF]

/-- Print of a digest, read again. -/
theorem parse_print (f : Nat → Int) (hf : ∀ i, 0 ≤ f i ∧ f i ≤ 255) (w : World) :
    Calls Try.prog 20 #[.string (strOfNums (hexI f 32))] w fun e w' => e = .returned (.tuple #[.agg (dA f), .bool true]) ∧ Below w.heap.size w w' := by
  refine (digest_Parse_ok _ w (back_size f) (back_ok f hf)).mono ?_
  rintro e w' ⟨rfl, hb⟩
  exact ⟨by rw [back_pv f hf], hb⟩


theorem digV_dA (f : Nat → Int) : digV f = .agg (dA f) := rfl

/-- A digest held against 'Digest{}'. -/
@[go_sem ↓] theorem eq28z (f : Nat → Int) (w : World) : (Op.equalIn 10000 28 (.agg (dA f)) (.agg #[.int .u8 0, .int .u8 0, .int .u8 0, .int .u8 0, .int .u8 0, .int .u8 0, .int .u8 0, .int .u8 0, .int .u8 0, .int .u8 0, .int .u8 0, .int .u8 0, .int .u8 0, .int .u8 0, .int .u8 0, .int .u8 0, .int .u8 0, .int .u8 0, .int .u8 0, .int .u8 0, .int .u8 0, .int .u8 0, .int .u8 0, .int .u8 0, .int .u8 0, .int .u8 0, .int .u8 0, .int .u8 0, .int .u8 0, .int .u8 0, .int .u8 0, .int .u8 0])).run Try.prog w = .ok (eqD f zeroF) w := by
  rw [← zero_lit]
  exact eq28 f zeroF w

set_option maxHeartbeats 1000000 in
theorem law_alive (w : World) :
    Calls Try.prog 17 #[] w fun e w' => e = .returned (.bool true) ∧ Below w.heap.size w w' := by
  obtain ⟨z, hz⟩ : ∃ z, z = digB [] := ⟨_, rfl⟩
  have q3 : eqD z zeroF = false := by rw [hz]; exact eqD_nil
  have HZ := Go.Lib.hid hz
  clear hz
  go_enter Try.func17, Try.ntmps17
  go_wp2_with fail
  simp only [← zero_lit]
  refine (digest_Print zeroF zeroF_bd _).mono ?_
  rintro e w1 ⟨rfl, hb1⟩
  go_wp2_with fail
  refine (parse_print zeroF zeroF_bd _).mono ?_
  rintro e w2 ⟨rfl, hb2⟩
  go_wp2_with fail
  refine (digest_Of none 0 0 [] _ rfl (Rd.nil _ _) (by decide)).mono ?_
  rintro e w3 ⟨rfl, hb3⟩
  rw [digV_dA, ← HZ.out]
  go_wp2_with fail
  have hl3 : w2.heap.size < w3.heap.size := by have := hb3.size; simp at this; omega
  have r1 : rowOf w3 w2.heap.size = some (dA zeroF) := by
    rw [rowOf_below hb3 (by simp), rowOf_new]
  have r2 : rowOf (w3.alloc (.cells (dA z) 28)) w3.heap.size = some (dA z) := rowOf_new _ _ _
  have q1 := eqD_refl zeroF
  have q2 := eqD_refl z
  go_region_with (go_at_call 18; refine (ref_Of none 0 0 [] _ rfl (Rd.nil _ _) (by decide)).mono ?_; rintro e w4 ⟨rfl, hb4⟩; rw [digV_dA, ← HZ.out]; have r3 : rowOf w4 w3.heap.size = some (dA z) := (by rw [rowOf_below hb4 (by simp), rowOf_drew]; exact r2))
  all_goals
    go_wp2
    go_ret
    exact ⟨rfl, btr (bdr (bal (btr (bal (btr hb1 hb2) _) hb3) _)) hb4⟩

end Go.Proofs.Ytkjdmjflppcofaa
