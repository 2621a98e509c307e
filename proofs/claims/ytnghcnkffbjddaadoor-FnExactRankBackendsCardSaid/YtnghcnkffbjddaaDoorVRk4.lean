/- The program's ranked on a list that is not empty. -/
import Derived.Test.YtnghcnkffbjddaaDoorVRk3
import Derived.Test.YtnghcnkffbjddaaDoorVAdd
import Derived.Lib.Hide
namespace Go.Proofs.YtnghcnkffbjddaaDoorV.Aes
open Go.RowKit Go.Proofs.YtnghcnkffbjddaaDoorV.PrintWords Go.Proofs.YtnghcnkffbjddaaDoorV.PrintLast Go.Proofs.YtnghcnkffbjddaaDoorV.PrintMore Go.Proofs.YtnghcnkffbjddaaDoorV.Mem
set_option linter.unusedVariables false
set_option linter.unusedSimpArgs false

def rankL (key : ByteArray) (l : List ByteArray) : List ByteArray := outerL (cfS key) (l.length - 1) 1 l
theorem innerL_length (cf : ByteArray → ByteArray → Int) : ∀ (j : Nat) (l : List ByteArray), (innerL cf j l).length = l.length
  | 0, _ => rfl
  | j + 1, l => by
    unfold innerL
    split
    · rw [innerL_length cf j, swapL_length]
    · rfl
theorem outerL_length (cf : ByteArray → ByteArray → Int) : ∀ (d i : Nat) (l : List ByteArray), (outerL cf d i l).length = l.length
  | 0, _, _ => rfl
  | d + 1, i, l => by
    unfold outerL
    rw [outerL_length cf d, innerL_length]
theorem rankL_length (key : ByteArray) (l : List ByteArray) : (rankL key l).length = l.length := outerL_length _ _ _ _
theorem sorted_walk (key : ByteArray) (hkey : key.size ≤ 1000) (kb : Addr) (w1 w2 : World) (hk : w1.cell? kb = some (.string key)) (v : Value) (l : List ByteArray) (h1 : 0 < l.length) (hl : l.length ≤ 12) (hs : ∀ s, s ∈ l → s.size ≤ 1000)
    (hR : Kd.R Kd.string 9 w2 w1.heap.size (fun _ => True) v l) (hB : Below w1.heap.size w1 w2) :
    Calls Tryd.prog 113 #[v, .func (.func 114) #[] #[.pointer (some kb)]] w2 fun e w' => e = .returned (.tuple #[]) ∧ (Kd.R Kd.string 9 w' w1.heap.size (fun _ => True) v (rankL key l) ∧ Below w1.heap.size w1 w') := by
  have hlen := rankL_length key l
  rcases (Kd.own_of_R hR).2 with ⟨_, h0⟩ | ⟨g, cap, cur, rfl, hb, hr, h2, h3, h4, h5⟩
  · omega
  · rw [Nat.mul_one] at h4 h5
    have hrow : RowIs w2 g cap l := ⟨cur, hr, h4, h2, h5⟩
    have ins := ins_walk (cfS key) (fun s => s.size ≤ 1000) kb w1 g cap l w2 hb (fun W hW x y hx hy => cmp_walk key hkey kb W (by rw [hW.cell (block_lt_of_cell hk)]; exact hk) x y hx hy) hB hrow hs l.length rfl (by omega)
    refine (sortStable_walk kb w2 g cap l.length _ (stable_walk kb w2 g cap l.length (by omega) (fun _ w' => RowIs w' g cap (outerL (cfS key) (l.length - 1) 1 l) ∧ Below w1.heap.size w1 w') ins)).mono ?_
    rintro e w' ⟨he, ⟨cur', hr', hs', hn', ht'⟩, hB'⟩
    have hll : (outerL (cfS key) (l.length - 1) 1 l).length = l.length := hlen
    rw [hll] at hn' ht'
    exact ⟨he, rowR hlen.symm hr' hb hn' h3 hs' ht', hB'⟩
set_option maxHeartbeats 2000000 in
set_option maxRecDepth 100000 in
theorem ranked_walk (A : Option Addr) (c n : Nat) (l : List ByteArray) (key : ByteArray) (hkey : key.size ≤ 1000) (hn : n = l.length) (w : World) (hr : Kd.C Kd.string w A n l) (h1 : 0 < n) (hl : n ≤ 12) (hs : ∀ s, s ∈ l → s.size ≤ 1000) :
    Calls Tryd.prog 87 #[.slice A n c, .string key] w fun e w' => ∃ v : Value, e = .returned v ∧ Kd.R Kd.string 9 w' w.heap.size (fun _ => True) v (rankL key l) ∧ Below w.heap.size w w' := by
  have hlen := rankL_length key l
  have hnew := heap_alloc_new w (.cells #[.string key] 9)
  have hws : (w.alloc (.cells #[.string key] 9)).heap.size = w.heap.size + 1 := by simp
  have hB1 : Below w.heap.size w (w.alloc (.cells #[.string key] 9)) := (Below.refl _ _).alloc (Nat.le_refl _) _
  have hclone := cloneS_any A c l (w.alloc (.cells #[.string key] 9)) (by rw [← hn]; exact Kd.C_alloc hr _) (by omega)
  rw [← hn] at hclone
  have hcell : (w.alloc (.cells #[.string key] 9)).cell? ⟨w.heap.size, 0, none⟩ = some (.string key) := by rw [cell_of_row _ _ _ _ _ _ hnew]; rfl
  have HI := Lib.hid (And.intro hn (And.intro h1 (And.intro hl (And.intro hs (And.intro hkey (And.intro hlen (And.intro hws (And.intro hB1 hcell))))))))
  clear hn h1 hl hs hkey hlen hws hB1 hcell hnew hr
  go_enter Tryd.func87, Tryd.ntmps87
  go_wp2_with (first
    | (go_at_call 54; refine hclone.mono ?_; rintro e w2 ⟨v, rfl, hR, hB⟩; have HR := Lib.hid hR; have HB := Lib.hid hB; clear hR hB hclone)
    | (go_at_call 113; refine (sorted_walk key HI.out.2.2.2.2.1 ⟨w.heap.size, 0, none⟩ _ _ HI.out.2.2.2.2.2.2.2.2 v l (by have := HI.out.1; have := HI.out.2.1; omega) (by have := HI.out.1; have := HI.out.2.2.1; omega) HI.out.2.2.2.1 HR.out HB.out).mono ?_; rintro e w3 ⟨rfl, hR2, hB2⟩; have HR2 := Lib.hid hR2; have HB2 := Lib.hid hB2; clear hR2 hB2))
  go_ret
  have hw := HI.out.2.2.2.2.2.2.1
  exact ⟨v, rfl, Kd.R_lower HR2.out (by rw [hw]; omega), HI.out.2.2.2.2.2.2.2.1.trans (HB2.out.mono (by rw [hw]; omega))⟩
end Go.Proofs.YtnghcnkffbjddaaDoorV.Aes
