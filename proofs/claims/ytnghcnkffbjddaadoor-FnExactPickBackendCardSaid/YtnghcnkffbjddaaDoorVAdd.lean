/- The program's AddBackend. Conditions: at most 1048576 elements. -/
import Derived.Test.YtnghcnkffbjddaaDoorVIns
import Derived.Test.YtnghcnkffbjddaaDoorPImplDx1
import Derived.Lib.Hide
namespace Go.Proofs.YtnghcnkffbjddaaDoorV.Aes
open Go.RowKit Go.Proofs.YtnghcnkffbjddaaDoorV.PrintWords Go.Proofs.YtnghcnkffbjddaaDoorV.PrintLast Go.Proofs.YtnghcnkffbjddaaDoorV.PrintMore Go.Proofs.YtnghcnkffbjddaaDoorV.Mem
set_option linter.unusedVariables false
set_option linter.unusedSimpArgs false

open Go.Proofs.YtnghcnkffbjddaaDoor.PImplD
set_option maxHeartbeats 2000000 in
set_option maxRecDepth 100000 in
theorem cloneS_some (ad : Addr) (c : Nat) (l : List ByteArray) (w : World) (hr : Kd.C Kd.string w (some ad) l.length l) (hl : l.length ≤ 1048576) :
    Calls Tryd.prog 54 #[.slice (some ad) l.length c] w fun e w' => ∃ v : Value, e = .returned v ∧ Kd.R Kd.string 9 w' w.heap.size (fun _ => True) v l ∧ Below w.heap.size w w' := by
  have q39 := fun (w : World) (a : Option Addr) (n c n' c' : Nat) => Lib.run_eql_slice_nil (P := Tryd.prog) w _ _ a n c n' c' Tryd.underlying23
  have HR := Aside0.mk hr
  have HL := Aside0.mk hl
  clear hr hl
  go_enter Tryd.func54, Tryd.ntmps54
  go_wp2_with (at_builtin; refine Kd.R_append_rows Kd.string (w0 := w) w.heap.size rfl _ _ 23 9 (.string ⟨#[]⟩) 16 rfl Tryd.underlying23 (by kernel_rfl) rfl (by decide) (by decide) _ [] l _ _ _ (fun _ => True) (fun _ => False) rfl rfl (Kd.R_of_own (ownsRowM.of (World.ownsRow_made w #[] 0 (Nat.le_refl _) (Nat.zero_le _) (by simp))) (fun _ _ => trivial)) (Kd.C_alloc HR.out _) (fun _ _ h => h) (fun _ h => h.elim) (fun _ _ => trivial) ((Below.refl _ _).alloc (Nat.le_refl _) _) (by simp) (by have := HL.out; simp only [List.length_nil]; omega) ?_; intro v1 w1 hR hB _ _; clear q39)
  go_ret
  exact ⟨v1, rfl, hR, hB⟩
set_option maxHeartbeats 2000000 in
set_option maxRecDepth 100000 in
theorem cloneS_nil (c : Nat) (w : World) :
    Calls Tryd.prog 54 #[.slice none 0 c] w fun e w' => ∃ v : Value, e = .returned v ∧ Kd.R Kd.string 9 w' w.heap.size (fun _ => True) v [] ∧ Below w.heap.size w w' := by
  have q39 := fun (w : World) (a : Option Addr) (n c n' c' : Nat) => Lib.run_eql_slice_nil (P := Tryd.prog) w _ _ a n c n' c' Tryd.underlying23
  go_enter Tryd.func54, Tryd.ntmps54
  go_wp2
  go_ret
  exact ⟨_, rfl, Kd.R_nil _ _ _ _ _, Below.refl _ _⟩
theorem cloneS_any (A : Option Addr) (c : Nat) (l : List ByteArray) (w : World) (hr : Kd.C Kd.string w A l.length l) (hl : l.length ≤ 1048576) :
    Calls Tryd.prog 54 #[.slice A l.length c] w fun e w' => ∃ v : Value, e = .returned v ∧ Kd.R Kd.string 9 w' w.heap.size (fun _ => True) v l ∧ Below w.heap.size w w' := by
  cases A with
  | some ad => exact cloneS_some ad c l w hr hl
  | none =>
    have h0 : l = [] := by
      by_cases h : 0 < l.length
      · obtain ⟨ad, h, _⟩ := Kd.at_string hr 0 (by omega) (by omega)
        cases h
      · exact List.length_eq_zero_iff.mp (by omega)
    subst h0
    exact cloneS_nil c w
def AddPost (w : World) (r1 : List ByteArray) (r2 : Bool) (e : Ending) (w' : World) : Prop :=
  ∃ v : Value, e = .returned (.tuple #[v, .bool r2]) ∧ Kd.R Kd.string 9 w' w.heap.size (fun _ => True) v r1 ∧ Below w.heap.size w w'
theorem add_no {w w' : World} (hB : Below w.heap.size w w') : AddPost w [] false (.returned (.tuple #[.slice none 0 0, .bool false])) w' := ⟨_, rfl, Kd.R_nil _ _ _ _ _, hB⟩
set_option maxHeartbeats 2000000 in
set_option maxRecDepth 100000 in
theorem add_fail1 (A : Option Addr) (c n : Nat) (s : ByteArray) (w : World) (ki : Int) (is : Bool)
    (hbin : Calls Tryd.prog 52 #[.slice A n c, .string s] w fun e w' => e = .returned (.tuple #[.int .i64 ki, .bool is]) ∧ Drawn0 w w')
    (hlive : ∀ W, Below w.heap.size w W → Calls Tryd.prog 19 #[.slice A n c] W fun e w' => e = .returned (.bool false) ∧ Below W.heap.size W w') :
    Calls Tryd.prog 26 #[.slice A n c, .string s] w (AddPost w [] false) := by
  go_enter Tryd.func26, Tryd.ntmps26
  go_wp2_with (first
    | (go_at_call 52; refine hbin.mono ?_; rintro e w1 ⟨rfl, ⟨nd, rfl⟩⟩; have hB1 := Lib.hid (pw_below_drewN (Below.refl w.heap.size w) nd))
    | (go_at_call 19; refine (hlive _ hB1.out).mono ?_; rintro e w2 ⟨rfl, hB2⟩; have hB3 := Lib.hid (hB1.out.trans (hB2.mono hB1.out.size)); clear hB2))
  go_ret2
  exact add_no hB3.out
set_option maxHeartbeats 2000000 in
set_option maxRecDepth 100000 in
theorem add_fail2 (A : Option Addr) (c n : Nat) (s : ByteArray) (w : World) (ki : Int) (is : Bool)
    (hbin : Calls Tryd.prog 52 #[.slice A n c, .string s] w fun e w' => e = .returned (.tuple #[.int .i64 ki, .bool is]) ∧ Drawn0 w w')
    (hlive : ∀ W, Below w.heap.size w W → Calls Tryd.prog 19 #[.slice A n c] W fun e w' => e = .returned (.bool true) ∧ Below W.heap.size W w')
    (hgood : ∀ W, Below w.heap.size w W → Calls Tryd.prog 15 #[.string s] W fun e w' => e = .returned (.bool false) ∧ Below W.heap.size W w') :
    Calls Tryd.prog 26 #[.slice A n c, .string s] w (AddPost w [] false) := by
  go_enter Tryd.func26, Tryd.ntmps26
  go_wp2_with (first
    | (go_at_call 52; refine hbin.mono ?_; rintro e w1 ⟨rfl, ⟨nd, rfl⟩⟩; have hB1 := Lib.hid (pw_below_drewN (Below.refl w.heap.size w) nd))
    | (go_at_call 19; refine (hlive _ hB1.out).mono ?_; rintro e w2 ⟨rfl, hB2⟩; have hB3 := Lib.hid (hB1.out.trans (hB2.mono hB1.out.size)); clear hB2)
    | (go_at_call 15; refine (hgood _ hB3.out).mono ?_; rintro e w3 ⟨rfl, hB2⟩; have hB4 := Lib.hid (hB3.out.trans (hB2.mono hB3.out.size)); clear hB2))
  go_ret2
  exact add_no hB4.out
set_option maxHeartbeats 2000000 in
set_option maxRecDepth 100000 in
theorem add_fail3 (A : Option Addr) (c n : Nat) (s : ByteArray) (w : World) (ki : Int)
    (hbin : Calls Tryd.prog 52 #[.slice A n c, .string s] w fun e w' => e = .returned (.tuple #[.int .i64 ki, .bool true]) ∧ Drawn0 w w')
    (hlive : ∀ W, Below w.heap.size w W → Calls Tryd.prog 19 #[.slice A n c] W fun e w' => e = .returned (.bool true) ∧ Below W.heap.size W w')
    (hgood : ∀ W, Below w.heap.size w W → Calls Tryd.prog 15 #[.string s] W fun e w' => e = .returned (.bool true) ∧ Below W.heap.size W w') :
    Calls Tryd.prog 26 #[.slice A n c, .string s] w (AddPost w [] false) := by
  go_enter Tryd.func26, Tryd.ntmps26
  go_wp2_with (first
    | (go_at_call 52; refine hbin.mono ?_; rintro e w1 ⟨rfl, ⟨nd, rfl⟩⟩; have hB1 := Lib.hid (pw_below_drewN (Below.refl w.heap.size w) nd))
    | (go_at_call 19; refine (hlive _ hB1.out).mono ?_; rintro e w2 ⟨rfl, hB2⟩; have hB3 := Lib.hid (hB1.out.trans (hB2.mono hB1.out.size)); clear hB2)
    | (go_at_call 15; refine (hgood _ hB3.out).mono ?_; rintro e w3 ⟨rfl, hB2⟩; have hB4 := Lib.hid (hB3.out.trans (hB2.mono hB3.out.size)); clear hB2))
  go_ret2
  exact add_no hB4.out
set_option maxHeartbeats 2000000 in
set_option maxRecDepth 100000 in
theorem add_fail4 (A : Option Addr) (c n : Nat) (s : ByteArray) (w : World) (ki : Int) (hn : 12 ≤ n)
    (hbin : Calls Tryd.prog 52 #[.slice A n c, .string s] w fun e w' => e = .returned (.tuple #[.int .i64 ki, .bool false]) ∧ Drawn0 w w')
    (hlive : ∀ W, Below w.heap.size w W → Calls Tryd.prog 19 #[.slice A n c] W fun e w' => e = .returned (.bool true) ∧ Below W.heap.size W w')
    (hgood : ∀ W, Below w.heap.size w W → Calls Tryd.prog 15 #[.string s] W fun e w' => e = .returned (.bool true) ∧ Below W.heap.size W w') :
    Calls Tryd.prog 26 #[.slice A n c, .string s] w (AddPost w [] false) := by
  have hn' : (n : Int) ≥ 12 := by omega
  clear hn
  go_enter Tryd.func26, Tryd.ntmps26
  go_wp2_with (first
    | (go_at_call 52; refine hbin.mono ?_; rintro e w1 ⟨rfl, ⟨nd, rfl⟩⟩; have hB1 := Lib.hid (pw_below_drewN (Below.refl w.heap.size w) nd))
    | (go_at_call 19; refine (hlive _ hB1.out).mono ?_; rintro e w2 ⟨rfl, hB2⟩; have hB3 := Lib.hid (hB1.out.trans (hB2.mono hB1.out.size)); clear hB2)
    | (go_at_call 15; refine (hgood _ hB3.out).mono ?_; rintro e w3 ⟨rfl, hB2⟩; have hB4 := Lib.hid (hB3.out.trans (hB2.mono hB3.out.size)); clear hB2))
  go_ret2
  exact add_no hB4.out
set_option maxHeartbeats 2000000 in
set_option maxRecDepth 100000 in
theorem add_done (A : Option Addr) (c n : Nat) (l : List ByteArray) (hn : n = l.length) (s : ByteArray) (w : World) (i : Nat) (hi : i ≤ n) (hl : n < 12)
    (hbin : Calls Tryd.prog 52 #[.slice A n c, .string s] w fun e w' => e = .returned (.tuple #[.int .i64 (i : Int), .bool false]) ∧ Drawn0 w w')
    (hlive : ∀ W, Below w.heap.size w W → Calls Tryd.prog 19 #[.slice A n c] W fun e w' => e = .returned (.bool true) ∧ Below W.heap.size W w')
    (hgood : ∀ W, Below w.heap.size w W → Calls Tryd.prog 15 #[.string s] W fun e w' => e = .returned (.bool true) ∧ Below W.heap.size W w')
    (hclone : ∀ W, Below w.heap.size w W → Calls Tryd.prog 54 #[.slice A n c] W fun e w' => ∃ v : Value, e = .returned v ∧ Kd.R Kd.string 9 w' W.heap.size (fun _ => True) v l ∧ Below W.heap.size W w') :
    Calls Tryd.prog 26 #[.slice A n c, .string s] w (AddPost w (l.take i ++ s :: l.drop i) true) := by
  have HI := Lib.hid (And.intro hn (And.intro hi hl))
  have hn' : ¬ (n : Int) ≥ 12 := by omega
  clear hn hi hl
  go_enter Tryd.func26, Tryd.ntmps26
  go_wp2_with (first
    | (go_at_call 52; refine hbin.mono ?_; rintro e w1 ⟨rfl, ⟨nd, rfl⟩⟩; have hB1 := Lib.hid (pw_below_drewN (Below.refl w.heap.size w) nd))
    | (go_at_call 19; refine (hlive _ hB1.out).mono ?_; rintro e w2 ⟨rfl, hB2⟩; have hB3 := Lib.hid (hB1.out.trans (hB2.mono hB1.out.size)); clear hB2)
    | (go_at_call 15; refine (hgood _ hB3.out).mono ?_; rintro e w3 ⟨rfl, hB2⟩; have hB4 := Lib.hid (hB3.out.trans (hB2.mono hB3.out.size)); clear hB2)
    | (go_at_call 54; refine (hclone _ hB4.out).mono ?_; rintro e w4 ⟨v, rfl, hR, hB2⟩; have hB5 := Lib.hid (hB4.out.trans (hB2.mono hB4.out.size)); have hR5 := Lib.hid (Kd.R_lower hR hB4.out.size); clear hB2 hR)
    | (go_at_call 56; refine (insertS_walk w _ v l i s hB5.out hR5.out (by have := HI.out; omega) (by have := HI.out; omega)).mono ?_; rintro e w5 ⟨v2, rfl, hR6, hB6⟩; have HR := Lib.hid hR6; have HB := Lib.hid hB6; clear hR6 hB6))
  go_ret2
  exact ⟨_, rfl, HR.out, HB.out⟩
def KK : Nat := 3145731
def addF (l : List ByteArray) (s : ByteArray) : Option (List ByteArray × Bool) :=
  (slices_BinarySearch_string_string.f KK l s).bind fun b => (impl_GoodLive.f KK l).bind fun live => (impl_GoodBackend.f s).bind fun good =>
    if live = false ∨ good = false ∨ b.2 = true ∨ 12 ≤ l.length then some ([], false) else if 0 ≤ b.1 ∧ b.1.toNat ≤ l.length then some (l.take b.1.toNat ++ s :: l.drop b.1.toNat, true) else none
theorem add_calls (A : Option Addr) (c : Nat) (l : List ByteArray) (s : ByteArray) (r1 : List ByteArray) (r2 : Bool) (w : World) (hr : Kd.C Kd.string w A l.length l) (hc : l.length ≤ c) (h : addF l s = some (r1, r2)) :
    Calls Tryd.prog 26 #[.slice A l.length c, .string s] w (AddPost w r1 r2) := by
  unfold addF at h
  obtain ⟨⟨ki, is⟩, h1, h⟩ := Option.bind_eq_some_iff.mp h
  obtain ⟨live, h2, h⟩ := Option.bind_eq_some_iff.mp h
  obtain ⟨good, h3, h⟩ := Option.bind_eq_some_iff.mp h
  have hbin := slices_BinarySearch_string_string.calls KK A c l s ki is w hr hc h1
  have hlive : ∀ W, Below w.heap.size w W → Calls Tryd.prog 19 #[.slice A l.length c] W fun e w' => e = .returned (.bool live) ∧ Below W.heap.size W w' :=
    fun W hB => impl_GoodLive.calls KK A c l live W (Kd.C_below hr hB) hc h2
  have hgood : ∀ W, Below w.heap.size w W → Calls Tryd.prog 15 #[.string s] W fun e w' => e = .returned (.bool good) ∧ Below W.heap.size W w' :=
    fun W hB => impl_GoodBackend.calls s good W h3
  by_cases hno : live = false ∨ good = false ∨ is = true ∨ 12 ≤ l.length
  · rw [if_pos hno] at h
    injection h with h
    injection h with e1 e2
    subst e1; subst e2
    cases live with
    | false => exact add_fail1 A c l.length s w ki is hbin hlive
    | true =>
      cases good with
      | false => exact add_fail2 A c l.length s w ki is hbin hlive hgood
      | true =>
        cases is with
        | true => exact add_fail3 A c l.length s w ki hbin hlive hgood
        | false =>
          have h12 : 12 ≤ l.length := by
            rcases hno with h | h | h | h
            · cases h
            · cases h
            · cases h
            · exact h
          exact add_fail4 A c l.length s w ki h12 hbin hlive hgood
  · rw [if_neg hno] at h
    by_cases hk : 0 ≤ ki ∧ ki.toNat ≤ l.length
    · rw [if_pos hk] at h
      injection h with h
      injection h with e1 e2
      subst e1; subst e2
      obtain ⟨i, rfl⟩ := Int.eq_ofNat_of_zero_le hk.1
      rw [Int.toNat_natCast] at hk ⊢
      have q : live = true ∧ good = true ∧ is = false ∧ l.length < 12 := by
        cases live <;> cases good <;> cases is <;> simp at hno ⊢ <;> omega
      obtain ⟨q1, q2, q3, q4⟩ := q
      subst q1; subst q2; subst q3
      exact add_done A c l.length l rfl s w i hk.2 q4 hbin hlive hgood (fun W hB => cloneS_any A c l W (Kd.C_below hr hB) (by omega))
    · rw [if_neg hk] at h; cases h
end Go.Proofs.YtnghcnkffbjddaaDoorV.Aes
