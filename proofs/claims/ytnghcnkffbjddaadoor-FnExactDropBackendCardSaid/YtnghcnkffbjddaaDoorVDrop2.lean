/- The program's DropBackend. Conditions: at most 1048576 elements. -/
import Derived.Test.YtnghcnkffbjddaaDoorVDrop
import Derived.Test.YtnghcnkffbjddaaDoorPImplDx1
import Derived.Lib.Hide
namespace Go.Proofs.YtnghcnkffbjddaaDoorV.Aes
open Go.RowKit Go.Proofs.YtnghcnkffbjddaaDoorV.PrintWords Go.Proofs.YtnghcnkffbjddaaDoorV.PrintLast Go.Proofs.YtnghcnkffbjddaaDoorV.PrintMore Go.Proofs.YtnghcnkffbjddaaDoorV.Mem
set_option linter.unusedVariables false
set_option linter.unusedSimpArgs false

open Go.Proofs.YtnghcnkffbjddaaDoor.PImplD
def DropPost (w : World) (r1 : List ByteArray) (r2 : Bool) (e : Ending) (w' : World) : Prop :=
  ∃ v : Value, e = .returned (.tuple #[v, .bool r2]) ∧ Kd.R Kd.string 9 w' w.heap.size (fun _ => True) v r1 ∧ Below w.heap.size w w'
theorem drop_no {w w' : World} (hB : Below w.heap.size w w') : DropPost w [] false (.returned (.tuple #[.slice none 0 0, .bool false])) w' := ⟨_, rfl, Kd.R_nil _ _ _ _ _, hB⟩
set_option maxHeartbeats 2000000 in
set_option maxRecDepth 100000 in
theorem drop_fail (A : Option Addr) (c n : Nat) (s : ByteArray) (w : World) (ki : Int) (is live : Bool) (hno : live = false ∨ is = false)
    (hbin : Calls Tryd.prog 52 #[.slice A n c, .string s] w fun e w' => e = .returned (.tuple #[.int .i64 ki, .bool is]) ∧ Drawn0 w w')
    (hlive : ∀ W, Below w.heap.size w W → Calls Tryd.prog 19 #[.slice A n c] W fun e w' => e = .returned (.bool live) ∧ Below W.heap.size W w') :
    Calls Tryd.prog 22 #[.slice A n c, .string s] w (DropPost w [] false) := by
  cases live with
  | false =>
    clear hno
    go_enter Tryd.func22, Tryd.ntmps22
    go_wp2_with (first
      | (go_at_call 52; refine hbin.mono ?_; rintro e w1 ⟨rfl, ⟨nd, rfl⟩⟩; have hB1 := Lib.hid (pw_below_drewN (Below.refl w.heap.size w) nd))
      | (go_at_call 19; refine (hlive _ hB1.out).mono ?_; rintro e w2 ⟨rfl, hB2⟩; have hB3 := Lib.hid (hB1.out.trans (hB2.mono hB1.out.size)); clear hB2))
    go_ret2
    exact drop_no hB3.out
  | true =>
    have his : is = false := hno.resolve_left (by decide)
    clear hno
    subst his
    go_enter Tryd.func22, Tryd.ntmps22
    go_wp2_with (first
      | (go_at_call 52; refine hbin.mono ?_; rintro e w1 ⟨rfl, ⟨nd, rfl⟩⟩; have hB1 := Lib.hid (pw_below_drewN (Below.refl w.heap.size w) nd))
      | (go_at_call 19; refine (hlive _ hB1.out).mono ?_; rintro e w2 ⟨rfl, hB2⟩; have hB3 := Lib.hid (hB1.out.trans (hB2.mono hB1.out.size)); clear hB2))
    go_ret2
    exact drop_no hB3.out
set_option maxHeartbeats 2000000 in
set_option maxRecDepth 100000 in
theorem drop_done (A : Option Addr) (c n : Nat) (l : List ByteArray) (hn : n = l.length) (s : ByteArray) (w : World) (i : Nat) (hi : i < n) (hl : n ≤ 1048576)
    (hbin : Calls Tryd.prog 52 #[.slice A n c, .string s] w fun e w' => e = .returned (.tuple #[.int .i64 (i : Int), .bool true]) ∧ Drawn0 w w')
    (hlive : ∀ W, Below w.heap.size w W → Calls Tryd.prog 19 #[.slice A n c] W fun e w' => e = .returned (.bool true) ∧ Below W.heap.size W w')
    (hclone : ∀ W, Below w.heap.size w W → Calls Tryd.prog 54 #[.slice A n c] W fun e w' => ∃ v : Value, e = .returned v ∧ Kd.R Kd.string 9 w' W.heap.size (fun _ => True) v l ∧ Below W.heap.size W w') :
    Calls Tryd.prog 22 #[.slice A n c, .string s] w (DropPost w (l.take i ++ l.drop (i + 1)) true) := by
  have HI := Lib.hid (And.intro hn (And.intro hi hl))
  have hi1 : 0 ≤ (i : Int) := by omega
  have hi2 : (i : Int) < 1048576 := by omega
  clear hn hi hl
  go_enter Tryd.func22, Tryd.ntmps22
  go_wp2_with (first
    | (go_at_call 52; refine hbin.mono ?_; rintro e w1 ⟨rfl, ⟨nd, rfl⟩⟩; have hB1 := Lib.hid (pw_below_drewN (Below.refl w.heap.size w) nd))
    | (go_at_call 19; refine (hlive _ hB1.out).mono ?_; rintro e w2 ⟨rfl, hB2⟩; have hB3 := Lib.hid (hB1.out.trans (hB2.mono hB1.out.size)); clear hB2)
    | (go_at_call 54; refine (hclone _ hB3.out).mono ?_; rintro e w3 ⟨v, rfl, hR, hB2⟩; have hB4 := Lib.hid (hB3.out.trans (hB2.mono hB3.out.size)); have hR4 := Lib.hid (Kd.R_lower hR hB3.out.size); clear hB2 hR)
    | (go_at_call 53; refine (deleteS_walk w _ v l i hB4.out hR4.out (by have := HI.out; omega) (by have := HI.out; omega)).mono ?_; rintro e w4 ⟨v2, rfl, hR5, hB5⟩; have HR := Lib.hid hR5; have HB := Lib.hid hB5; clear hR5 hB5))
  go_ret2
  exact ⟨_, rfl, HR.out, HB.out⟩
def KK : Nat := 3145731
def dropF (l : List ByteArray) (s : ByteArray) : Option (List ByteArray × Bool) :=
  (slices_BinarySearch_string_string.f KK l s).bind fun b => (impl_GoodLive.f KK l).bind fun live =>
    if live = false ∨ b.2 = false then some ([], false) else if 0 ≤ b.1 ∧ b.1.toNat < l.length ∧ l.length ≤ 1048576 then some (l.take b.1.toNat ++ l.drop (b.1.toNat + 1), true) else none
theorem drop_calls (A : Option Addr) (c : Nat) (l : List ByteArray) (s : ByteArray) (r1 : List ByteArray) (r2 : Bool) (w : World) (hr : Kd.C Kd.string w A l.length l) (hc : l.length ≤ c) (h : dropF l s = some (r1, r2)) :
    Calls Tryd.prog 22 #[.slice A l.length c, .string s] w (DropPost w r1 r2) := by
  unfold dropF at h
  obtain ⟨⟨ki, is⟩, h1, h⟩ := Option.bind_eq_some_iff.mp h
  obtain ⟨live, h2, h⟩ := Option.bind_eq_some_iff.mp h
  have hbin := slices_BinarySearch_string_string.calls KK A c l s ki is w hr hc h1
  have hlive : ∀ W, Below w.heap.size w W → Calls Tryd.prog 19 #[.slice A l.length c] W fun e w' => e = .returned (.bool live) ∧ Below W.heap.size W w' :=
    fun W hB => impl_GoodLive.calls KK A c l live W (Kd.C_below hr hB) hc h2
  by_cases hno : live = false ∨ is = false
  · rw [if_pos hno] at h
    injection h with h
    injection h with e1 e2
    subst e1; subst e2
    exact drop_fail A c l.length s w ki is live hno hbin hlive
  · rw [if_neg hno] at h
    by_cases hk : 0 ≤ ki ∧ ki.toNat < l.length ∧ l.length ≤ 1048576
    · rw [if_pos hk] at h
      injection h with h
      injection h with e1 e2
      subst e1; subst e2
      obtain ⟨i, rfl⟩ := Int.eq_ofNat_of_zero_le hk.1
      rw [Int.toNat_natCast] at hk ⊢
      have q1 : live = true := by
        cases live with
        | false => exact absurd (.inl rfl) hno
        | true => rfl
      have q2 : is = true := by
        cases is with
        | false => exact absurd (.inr rfl) hno
        | true => rfl
      subst q1; subst q2
      exact drop_done A c l.length l rfl s w i hk.2.1 hk.2.2 hbin hlive (fun W hB => cloneS_walk A c l W (Kd.C_below hr hB) hk.2.2 (by omega))
    · rw [if_neg hk] at h; cases h
end Go.Proofs.YtnghcnkffbjddaaDoorV.Aes
