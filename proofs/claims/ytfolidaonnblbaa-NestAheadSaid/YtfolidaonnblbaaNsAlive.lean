/- alive: the answers that the document fixes; same. -/
import Derived.Test.YtfolidaonnblbaaNsEnc
import Derived.Lib.SlBytesConst
namespace Go.Proofs.Ytfolidaonnblbaa
open Go.ChangeShapes Go.WideShapes Go.RowKit
set_option linter.unusedVariables false

theorem rd_new_fr (w : World) (cs : Array Value) (t : TypeId) (fr : Nat × Nat) : Rd (w.alloc (.cells cs t fr)) (some ⟨w.heap.size, 0, none⟩) cs.toList := fun _ =>
  ⟨w.heap.size, 0, rfl, by simp, fun j u hu => by
    rw [cell_of_row _ _ _ cs t fr (Go.heap_alloc_new w _)]
    simpa using hu⟩
def catT : Tree := .mk true [] [.mk false [99, 97, 116] [], .mk false [] []]
theorem cat_enc : pEncode catT = .ok [197, 131, 99, 97, 116, 128] := by kernel_rfl
def oneT : Tree := .mk true [] [.mk false [128] []]
theorem one_dec : pDecode [194, 129, 128] = .ok oneT := by kernel_rfl

theorem rdT_cat (w : World) : RdT ((w.alloc (.cells #[.int .u8 99, .int .u8 97, .int .u8 116] 5 (3, 4))).alloc (.cells #[.bool false, .slice (some ⟨w.heap.size, 0, none⟩) 3 3, .slice none 0 0, .bool false, .slice none 0 0, .slice none 0 0] 25)) (fun _ => True) catT (.bool true) (.slice none 0 0) (.slice (some ⟨w.heap.size + 1, 0, none⟩) 2 2) := by
  refine RdT.list (cs := [.bool false, .slice (some ⟨w.heap.size, 0, none⟩) 3 3, .slice none 0 0, .bool false, .slice none 0 0, .slice none 0 0]) rfl (by omega) (by omega) ?_ ?_
  · refine RdP.of_rd ?_ (fun _ _ _ => trivial)
    have h := rd_new (w.alloc (.cells #[.int .u8 99, .int .u8 97, .int .u8 116] 5 (3, 4))) #[.bool false, .slice (some ⟨w.heap.size, 0, none⟩) 3 3, .slice none 0 0, .bool false, .slice none 0 0, .slice none 0 0] 25
    simpa using h
  · simp only [RdL]
    refine ⟨_, _, _, _, rfl, RdT.text rfl (by omega) (by omega) (by omega) (RdP.of_rd ?_ (fun _ _ _ => trivial)), _, _, _, _, rfl, RdT.zero _ _, rfl⟩
    exact (rd_new_fr w #[.int .u8 99, .int .u8 97, .int .u8 116] 5 (3, 4)).alloc _

set_option maxHeartbeats 1000000 in
set_option maxRecDepth 100000 in
theorem law_alive (w : World) :
    Calls Try.prog 15 #[] w fun r w' => r = .returned (.bool true) ∧ Below w.heap.size w w' := by
  have h0 := rdT_cat w
  have H0 := Go.Lib.hid h0
  clear h0
  have kc := fun (w : World) (C : Array Value) (n c : Nat) => Lib.run_convert_bytes_const (P := Try.prog) w 22 5 C n c Try.underlying22 Try.underlying5
  go_enter Try.func15, Try.ntmps15
  go_wp2_with fail
  refine (nest_Encode catT _ _ _ _ _ H0.out).mono ?_
  intro r w2 hp
  unfold EncP at hp
  rw [cat_enc] at hp
  obtain ⟨A2, n2, c2, rfl, hown2, hb2⟩ := hp
  obtain rfl : n2 = 6 := by have := hown2.len; simpa using this.symm
  have hcap2 := hown2.cap
  have HO2 := Go.Lib.hid hown2
  have HB2 := Go.Lib.hid (btr (bal (bal (Below.refl w.heap.size w) (.cells #[.int .u8 99, .int .u8 97, .int .u8 116] 5 (3, 4))) (.cells #[.bool false, .slice (some ⟨w.heap.size, 0, none⟩) 3 3, .slice none 0 0, .bool false, .slice none 0 0, .slice none 0 0] 25)) hb2)
  clear hown2 hb2
  go_wp2_with fail
  refine (nest_Decode _ 3 3 [194, 129, 128] _ (rd_new w2 #[.int .u8 194, .int .u8 129, .int .u8 128] 5) rfl (by omega) (by omega)).mono ?_
  intro r w3 hp
  unfold DecP at hp
  rw [one_dec] at hp
  obtain ⟨v0, v1, v2, rfl, ht3, hb3⟩ := hp
  have hb3' : Below w2.heap.size w2 w3 := btr (bal (Below.refl _ _) _) hb3
  obtain ⟨A3, c3, B3, d3, cs3, rfl, rfl, rfl, _, _, _, hd3, _, hB3, hL3⟩ := ht3.parts
  obtain ⟨g, off, q0, q1, q2, rfl, hq, k0, k1, k2⟩ := item_cells hB3 hL3 (Below.refl _ _) 0 (by simp)
  obtain ⟨A4, c4, B4, d4, cs4, rfl, rfl, rfl, _, _, _, _, hA4, _, _⟩ := hq.parts
  have hc4 : ∀ w' : World, Below w3.heap.size w3 w' → (convert 22 9 (.slice A4 1 c4)).run Try.prog w' = .ok (.string ⟨#[128]⟩) w' := fun w' h =>
    conv_bs w' _ 5 _ Try.underlying22 Try.underlying5 Try.underlying9 A4 1 c4 [128] (hA4.rd.below h) rfl
  have hc2 : ∀ w' : World, Below w3.heap.size w3 w' → (convert 22 9 (.slice A2 6 c2)).run Try.prog w' = .ok (.string ⟨#[197, 131, 99, 97, 116, 128]⟩) w' := fun w' h =>
    conv_bs w' _ 5 _ Try.underlying22 Try.underlying5 Try.underlying9 A2 6 c2 [197, 131, 99, 97, 116, 128] ((HO2.out.rd.below hb3').below h) rfl
  have e4 := hc4 (w3.alloc (.cells #[.bool true, .slice A3 0 c3, .slice (some ⟨g, off, none⟩) 1 d3] 25)) (bal (Below.refl _ _) _)
  have e2 := hc2 (w3.alloc (.cells #[.bool true, .slice A3 0 c3, .slice (some ⟨g, off, none⟩) 1 d3] 25)) (bal (Below.refl _ _) _)
  have hg3 : g < w3.heap.size := by
    obtain ⟨g', off', e, hg', _⟩ := hB3 (by
      intro h
      have := hL3.len
      rw [h] at this
      simp at this)
    injection e with e
    injection e with e
    subst e
    exact hg'
  have HB3 := Go.Lib.hid (btr HB2.out hb3')
  clear hb3 hb3' ht3 hB3 hL3 hq hA4 hc4 hc2 k0 k2
  simp only [Nat.zero_mul, Nat.add_zero] at k1
  simp only [List.length_nil, List.length_cons, Nat.zero_add]
  go_wp2_with fail
  go_ret
  exact ⟨rfl, bal HB3.out _⟩

set_option maxHeartbeats 1000000 in
theorem law_same (A B : Option Addr) (n c m d : Nat) (xs ys : List UInt8) (w : World) (hx : Rd w A (bs xs)) (hy : Rd w B (bs ys)) (hn : xs.length = n) (hm : ys.length = m) :
    Calls Try.prog 20 #[.slice A n c, .slice B m d] w fun e w' => e = .returned (.bool (xs == ys)) ∧ w' = w := by
  have hc1 := conv_bs (P := Try.prog) w 22 5 9 Try.underlying22 Try.underlying5 Try.underlying9 A n c xs hx hn
  have hc2 := conv_bs (P := Try.prog) w 22 5 9 Try.underlying22 Try.underlying5 Try.underlying9 B m d ys hy hm
  clear hx hy hn hm
  go_enter Try.func20, Try.ntmps20
  go_wp2_with fail
  go_ret
  exact ⟨rfl, rfl⟩

end Go.Proofs.Ytfolidaonnblbaa
