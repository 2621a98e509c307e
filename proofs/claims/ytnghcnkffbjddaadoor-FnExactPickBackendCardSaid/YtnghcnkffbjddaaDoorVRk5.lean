/- The program's PickBackend. -/
import Derived.Test.YtnghcnkffbjddaaDoorVRk4
import Derived.Lib.Hide
namespace Go.Proofs.YtnghcnkffbjddaaDoorV.Aes
open Go.RowKit Go.Proofs.YtnghcnkffbjddaaDoorV.PrintWords Go.Proofs.YtnghcnkffbjddaaDoorV.PrintLast Go.Proofs.YtnghcnkffbjddaaDoorV.PrintMore Go.Proofs.YtnghcnkffbjddaaDoorV.Mem
set_option linter.unusedVariables false
set_option linter.unusedSimpArgs false

open Go.Proofs.YtnghcnkffbjddaaDoor.PImplD
def PickPost (w : World) (r1 : ByteArray) (r2 : Bool) (e : Ending) (w' : World) : Prop := e = .returned (.tuple #[.string r1, .bool r2]) ∧ Below w.heap.size w w'
set_option maxHeartbeats 2000000 in
set_option maxRecDepth 100000 in
theorem pick_dead (A : Option Addr) (c n : Nat) (key : ByteArray) (w : World)
    (hlive : Calls Tryd.prog 19 #[.slice A n c] w fun e w' => e = .returned (.bool false) ∧ Below w.heap.size w w') :
    Calls Tryd.prog 45 #[.slice A n c, .string key] w (PickPost w ⟨#[]⟩ false) := by
  go_enter Tryd.func45, Tryd.ntmps45
  go_wp2_with (go_at_call 19; refine hlive.mono ?_; rintro e w1 ⟨rfl, hB1⟩)
  go_ret2
  exact ⟨rfl, hB1⟩
set_option maxHeartbeats 2000000 in
set_option maxRecDepth 100000 in
theorem pick_empty (A : Option Addr) (c : Nat) (key : ByteArray) (w : World)
    (hlive : Calls Tryd.prog 19 #[.slice A 0 c] w fun e w' => e = .returned (.bool true) ∧ Below w.heap.size w w') :
    Calls Tryd.prog 45 #[.slice A 0 c, .string key] w (PickPost w ⟨#[]⟩ false) := by
  go_enter Tryd.func45, Tryd.ntmps45
  go_wp2_with (go_at_call 19; refine hlive.mono ?_; rintro e w1 ⟨rfl, hB1⟩)
  go_ret2
  exact ⟨rfl, hB1⟩
set_option maxHeartbeats 2000000 in
set_option maxRecDepth 100000 in
theorem pick_long (A : Option Addr) (c n : Nat) (key : ByteArray) (hn : 0 < n) (hk : 100 < key.size) (w : World)
    (hlive : Calls Tryd.prog 19 #[.slice A n c] w fun e w' => e = .returned (.bool true) ∧ Below w.heap.size w w') :
    Calls Tryd.prog 45 #[.slice A n c, .string key] w (PickPost w ⟨#[]⟩ false) := by
  have hn0 : ¬ (n : Int) = 0 := by omega
  have hkey := keyOk_no key hk
  clear hn hk
  go_enter Tryd.func45, Tryd.ntmps45
  go_wp2_with (first
    | (go_at_call 19; refine hlive.mono ?_; rintro e w1 ⟨rfl, hB1⟩)
    | (go_at_call 84; refine (hkey _).mono ?_; rintro e w2 ⟨rfl, rfl⟩))
  go_ret2
  exact ⟨rfl, hB1⟩
theorem row_first {w : World} {base : Nat} {v : Value} {l : List ByteArray} (hR : Kd.R Kd.string 9 w base (fun _ => True) v l) (h1 : 0 < l.length) :
    ∃ g cap, v = .slice (some ⟨g, 0, none⟩) l.length cap ∧ w.cell? ⟨g, 0, none⟩ = some (.string (l.getD 0 ByteArray.empty)) := by
  rcases (Kd.own_of_R hR).2 with ⟨_, h0⟩ | ⟨g, cap, cur, rfl, hb, hr, h2, h3, h4, h5⟩
  · omega
  · rw [Nat.mul_one] at h4 h5
    have hrow : RowIs w g cap l := ⟨cur, hr, h4, h2, h5⟩
    exact ⟨g, cap, rfl, hrow.cell 0 h1⟩
set_option maxHeartbeats 2000000 in
set_option maxRecDepth 100000 in
theorem pick_done (A : Option Addr) (c n : Nat) (l : List ByteArray) (key : ByteArray) (r : ByteArray) (hr : r = (rankL key l).getD 0 ByteArray.empty) (hn : n = l.length) (h0 : 0 < n) (hk : key.size ≤ 100) (w : World)
    (hlive : Calls Tryd.prog 19 #[.slice A n c] w fun e w' => e = .returned (.bool true) ∧ Below w.heap.size w w')
    (hrank : ∀ W, Below w.heap.size w W → Calls Tryd.prog 87 #[.slice A n c, .string key] W fun e w' => ∃ v : Value, e = .returned v ∧ Kd.R Kd.string 9 w' W.heap.size (fun _ => True) v (rankL key l) ∧ Below W.heap.size W w') :
    Calls Tryd.prog 45 #[.slice A n c, .string key] w (PickPost w r true) := by
  have hn0 : ¬ (n : Int) = 0 := by omega
  have hkey := keyOk_yes key hk
  have HI := Lib.hid (And.intro hr (And.intro hn h0))
  have hn1 : 0 < (n : Int) := by omega
  clear hr hn h0 hk
  go_enter Tryd.func45, Tryd.ntmps45
  go_wp2_with (first
    | (go_at_call 19; refine hlive.mono ?_; rintro e w1 ⟨rfl, hB1⟩; have HB1 := Lib.hid hB1; clear hB1)
    | (go_at_call 84; refine (hkey _).mono ?_; rintro e w2 ⟨rfl, rfl⟩)
    | (go_at_call 87; refine (hrank _ HB1.out).mono ?_; rintro e w3 ⟨v, rfl, hR, hB2⟩; have HB2 := Lib.hid hB2; obtain ⟨g, cap, rfl, hcell⟩ := row_first hR (by rw [rankL_length]; have := HI.out.2.1; have := HI.out.2.2; omega); rw [rankL_length, ← HI.out.2.1, ← HI.out.1] at *; clear hR hB2))
  go_ret2
  exact ⟨rfl, HB1.out.trans (HB2.out.mono HB1.out.size)⟩
end Go.Proofs.YtnghcnkffbjddaaDoorV.Aes
