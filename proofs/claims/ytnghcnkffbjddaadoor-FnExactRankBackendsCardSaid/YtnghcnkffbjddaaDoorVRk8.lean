/- RankBackends, by the program and by the reference. Conditions: texts of at most 1048576 bytes. -/
import Derived.Test.YtnghcnkffbjddaaDoorVRk7
import Derived.Test.YtnghcnkffbjddaaDoorVAdd
import Derived.Lib.Hide
import Derived.Deep.LoopGhost
namespace Go.Proofs.YtnghcnkffbjddaaDoorV.Aes
open Go.RowKit Go.Proofs.YtnghcnkffbjddaaDoorV.PrintWords Go.Proofs.YtnghcnkffbjddaaDoorV.PrintLast Go.Proofs.YtnghcnkffbjddaaDoorV.PrintMore Go.Proofs.YtnghcnkffbjddaaDoorV.Mem
set_option linter.unusedVariables false
set_option linter.unusedSimpArgs false

open Go.Proofs.YtnghcnkffbjddaaDoor.PSpecO Go.Proofs.YtnghcnkffbjddaaDoor.PImplD
set_option maxHeartbeats 2000000 in
set_option maxRecDepth 100000 in
theorem ins_empty (kb : Addr) (A : Option Addr) (c : Nat) (w : World) :
    Calls Tryd.prog 185 #[.slice A 0 c, .int .i64 0, .int .i64 0, .func (.func 114) #[] #[.pointer (some kb)]] w fun e w' => e = .returned (.tuple #[]) ∧ w' = w := by
  go_enter Tryd.func185, Tryd.ntmps185
  go_wp2
  go_loopg [8] 0 (fun g1 vi wr => vi = .int .i64 1 ∧ w = wr)
  case atStart => exact ⟨by first | rfl | go_num, rfl⟩
  case round =>
    obtain ⟨rfl, rfl⟩ := hrel
    go_wp2
    go_end0
    exact ⟨rfl, rfl⟩
set_option maxHeartbeats 2000000 in
set_option maxRecDepth 100000 in
theorem stable_empty (kb : Addr) (A : Option Addr) (c : Nat) (w : World) :
    Calls Tryd.prog 157 #[.slice A 0 c, .int .i64 0, .func (.func 114) #[] #[.pointer (some kb)]] w fun e w' => e = .returned (.tuple #[]) ∧ w' = w := by
  have hins := fun w => ins_empty kb A c w
  go_enter Tryd.func157, Tryd.ntmps157
  go_wp2
  go_loopg [7, 8] 0 (fun gg va vb wr => va = .int .i64 0 ∧ vb = .int .i64 20 ∧ w = wr)
  case atStart => exact ⟨rfl, rfl, rfl⟩
  case round =>
    obtain ⟨rfl, rfl, rfl⟩ := hrel
    go_wp2_with (go_at_call 185; refine (hins _).mono ?_; rintro e w1 ⟨rfl, rfl⟩)
    go_loopg [6] 0 (fun gg v6 wr => v6 = .int .i64 20 ∧ w1 = wr)
    case atStart => exact ⟨rfl, rfl⟩
    case round =>
      obtain ⟨rfl, rfl⟩ := hrel
      go_wp2
      go_end0
      exact ⟨rfl, rfl⟩
set_option maxHeartbeats 2000000 in
set_option maxRecDepth 100000 in
theorem sort_empty (kb : Addr) (A : Option Addr) (c : Nat) (w : World) :
    Calls Tryd.prog 113 #[.slice A 0 c, .func (.func 114) #[] #[.pointer (some kb)]] w fun e w' => e = .returned (.tuple #[]) ∧ w' = w := by
  have hst := fun w => stable_empty kb A c w
  go_enter Tryd.func113, Tryd.ntmps113
  go_wp2_with (go_at_call 157; refine (hst _).mono ?_; rintro e w1 ⟨rfl, rfl⟩)
  go_end0
  exact ⟨rfl, rfl⟩
theorem sorted_empty (kb : Addr) (w1 w2 : World) (v : Value) (hR : Kd.R Kd.string 9 w2 w1.heap.size (fun _ => True) v ([] : List ByteArray)) (hB : Below w1.heap.size w1 w2) :
    Calls Tryd.prog 113 #[v, .func (.func 114) #[] #[.pointer (some kb)]] w2 fun e w' => e = .returned (.tuple #[]) ∧ (Kd.R Kd.string 9 w' w1.heap.size (fun _ => True) v ([] : List ByteArray) ∧ Below w1.heap.size w1 w') := by
  obtain ⟨A, c, rfl, _, _⟩ := Kd.R_reads hR
  refine (sort_empty kb A c w2).mono ?_
  rintro e w' ⟨rfl, rfl⟩
  exact ⟨rfl, hR, hB⟩
set_option maxHeartbeats 2000000 in
set_option maxRecDepth 100000 in
theorem ranked_empty (A : Option Addr) (c : Nat) (key : ByteArray) (w : World) (hr : Kd.C Kd.string w A 0 ([] : List ByteArray)) :
    Calls Tryd.prog 87 #[.slice A 0 c, .string key] w fun e w' => ∃ v : Value, e = .returned v ∧ Kd.R Kd.string 9 w' w.heap.size (fun _ => True) v ([] : List ByteArray) ∧ Below w.heap.size w w' := by
  have hws : (w.alloc (.cells #[.string key] 9)).heap.size = w.heap.size + 1 := by simp
  have hB1 : Below w.heap.size w (w.alloc (.cells #[.string key] 9)) := (Below.refl _ _).alloc (Nat.le_refl _) _
  have hclone := cloneS_any A c ([] : List ByteArray) (w.alloc (.cells #[.string key] 9)) (Kd.C_alloc hr _) (by decide)
  have HI := Lib.hid (And.intro hws hB1)
  clear hws hB1 hr
  go_enter Tryd.func87, Tryd.ntmps87
  go_wp2_with (first
    | (go_at_call 54; refine hclone.mono ?_; rintro e w2 ⟨v, rfl, hR, hB⟩; have HR := Lib.hid hR; have HB := Lib.hid hB; clear hR hB hclone)
    | (go_at_call 113; refine (sorted_empty ⟨w.heap.size, 0, none⟩ _ _ v HR.out HB.out).mono ?_; rintro e w3 ⟨rfl, hR2, hB2⟩; have HR2 := Lib.hid hR2; have HB2 := Lib.hid hB2; clear hR2 hB2))
  go_ret
  have hw := HI.out.1
  exact ⟨v, rfl, Kd.R_lower HR2.out (by rw [hw]; omega), HI.out.2.trans (HB2.out.mono (by rw [hw]; omega))⟩
theorem ranked_any (A : Option Addr) (c : Nat) (l : List ByteArray) (key : ByteArray) (hkey : key.size ≤ 1000) (w : World) (hr : Kd.C Kd.string w A l.length l) (hl : l.length ≤ 12) (hs : ∀ s, s ∈ l → s.size ≤ 1000) :
    Calls Tryd.prog 87 #[.slice A l.length c, .string key] w fun e w' => ∃ v : Value, e = .returned v ∧ Kd.R Kd.string 9 w' w.heap.size (fun _ => True) v (rankL key l) ∧ Below w.heap.size w w' := by
  cases l with
  | nil => exact ranked_empty A c key w hr
  | cons x t => exact ranked_walk A c (x :: t).length (x :: t) key hkey rfl w hr (by simp) hl hs
set_option maxHeartbeats 2000000 in
set_option maxRecDepth 100000 in
theorem rank_dead (A : Option Addr) (c n : Nat) (key : ByteArray) (w : World)
    (hlive : Calls Tryd.prog 19 #[.slice A n c] w fun e w' => e = .returned (.bool false) ∧ Below w.heap.size w w') :
    Calls Tryd.prog 47 #[.slice A n c, .string key] w (AddPost w [] false) := by
  go_enter Tryd.func47, Tryd.ntmps47
  go_wp2_with (go_at_call 19; refine hlive.mono ?_; rintro e w1 ⟨rfl, hB1⟩)
  go_ret2
  exact add_no hB1
set_option maxHeartbeats 2000000 in
set_option maxRecDepth 100000 in
theorem rank_long (A : Option Addr) (c n : Nat) (key : ByteArray) (hk : 100 < key.size) (w : World)
    (hlive : Calls Tryd.prog 19 #[.slice A n c] w fun e w' => e = .returned (.bool true) ∧ Below w.heap.size w w') :
    Calls Tryd.prog 47 #[.slice A n c, .string key] w (AddPost w [] false) := by
  have hkey := keyOk_no key hk
  clear hk
  go_enter Tryd.func47, Tryd.ntmps47
  go_wp2_with (first
    | (go_at_call 19; refine hlive.mono ?_; rintro e w1 ⟨rfl, hB1⟩)
    | (go_at_call 84; refine (hkey _).mono ?_; rintro e w2 ⟨rfl, rfl⟩))
  go_ret2
  exact add_no hB1
set_option maxHeartbeats 2000000 in
set_option maxRecDepth 100000 in
theorem rank_done (A : Option Addr) (c n : Nat) (key : ByteArray) (r : List ByteArray) (hk : key.size ≤ 100) (w : World)
    (hlive : Calls Tryd.prog 19 #[.slice A n c] w fun e w' => e = .returned (.bool true) ∧ Below w.heap.size w w')
    (hrank : ∀ W, Below w.heap.size w W → Calls Tryd.prog 87 #[.slice A n c, .string key] W fun e w' => ∃ v : Value, e = .returned v ∧ Kd.R Kd.string 9 w' W.heap.size (fun _ => True) v r ∧ Below W.heap.size W w') :
    Calls Tryd.prog 47 #[.slice A n c, .string key] w (AddPost w r true) := by
  have hkey := keyOk_yes key hk
  clear hk
  go_enter Tryd.func47, Tryd.ntmps47
  go_wp2_with (first
    | (go_at_call 19; refine hlive.mono ?_; rintro e w1 ⟨rfl, hB1⟩; have HB1 := Lib.hid hB1; clear hB1)
    | (go_at_call 84; refine (hkey _).mono ?_; rintro e w2 ⟨rfl, rfl⟩)
    | (go_at_call 87; refine (hrank _ HB1.out).mono ?_; rintro e w3 ⟨v, rfl, hR, hB2⟩; have HR := Lib.hid hR; have HB2 := Lib.hid hB2; clear hR hB2))
  go_ret2
  exact ⟨_, rfl, Kd.R_lower HR.out HB1.out.size, HB1.out.trans (HB2.out.mono HB1.out.size)⟩
def rankA (l : List ByteArray) (key : ByteArray) : Option (List ByteArray × Bool) :=
  if okT l = true then (if liveS l = false ∨ 100 < key.size then some ([], false) else some (rkL (scF key) l, true)) else none
theorem rankA_some (l : List ByteArray) (key : ByteArray) (hl : l.length ≤ 1048576) (hs : ∀ s, s ∈ l → s.size ≤ 1048576) : ∃ r, rankA l key = some r ∧ r.1.length ≤ 1048576 := by
  unfold rankA
  rw [if_pos ((okT_iff l).mpr ⟨hl, hs⟩)]
  split
  · exact ⟨_, rfl, by decide⟩
  · refine ⟨_, rfl, ?_⟩
    show (rkL (scF key) l).length ≤ 1048576
    rw [← rankL_rk, rankL_length]
    exact hl
theorem iRank_calls (A : Option Addr) (c : Nat) (l : List ByteArray) (key : ByteArray) (r1 : List ByteArray) (r2 : Bool) (w : World) (hr : Kd.C Kd.string w A l.length l) (hc : l.length ≤ c) (h : rankA l key = some (r1, r2)) :
    Calls Tryd.prog 47 #[.slice A l.length c, .string key] w (AddPost w r1 r2) := by
  unfold rankA at h
  by_cases hok : okT l = true
  · rw [if_pos hok] at h
    obtain ⟨hl, hs⟩ := (okT_iff l).mp hok
    have hlive := impl_GoodLive.calls KK A c l (liveS l) w hr hc (live_impl KK l hl hs (by decide))
    by_cases hno : liveS l = false ∨ 100 < key.size
    · rw [if_pos hno] at h
      injection h with h
      injection h with e1 e2
      subst e1; subst e2
      cases hlv : liveS l with
      | false => rw [hlv] at hlive; exact rank_dead A c l.length key w hlive
      | true =>
        rw [hlv] at hlive
        refine rank_long A c l.length key ?_ w hlive
        rcases hno with q | q
        · rw [hlv] at q; cases q
        · exact q
    · rw [if_neg hno] at h
      injection h with h
      injection h with e1 e2
      subst e1; subst e2
      have hlv : liveS l = true := by
        cases q : liveS l with
        | true => rfl
        | false => exact absurd (.inl q) hno
      rw [hlv] at hlive
      have hk : key.size ≤ 100 := by omega
      obtain ⟨h12, hs12⟩ := liveS_sizes l hlv
      rw [← rankL_rk]
      exact rank_done A c l.length key _ hk w hlive (fun W hB => ranked_any A c l key (by omega) W (Kd.C_below hr hB) h12 (fun s hq => by have := hs12 s hq; omega))
  · rw [if_neg hok] at h; cases h
set_option maxHeartbeats 2000000 in
set_option maxRecDepth 100000 in
theorem sRank_dead (A : Option Addr) (c n : Nat) (key : ByteArray) (w : World)
    (hlive : Calls Tryd.prog 17 #[.slice A n c] w fun e w' => e = .returned (.bool false) ∧ Drawn0 w w') :
    Calls Tryd.prog 46 #[.slice A n c, .string key] w (AddPost w [] false) := by
  go_enter Tryd.func46, Tryd.ntmps46
  go_wp2_with (go_at_call 17; refine hlive.mono ?_; rintro e w1 ⟨rfl, ⟨nd, rfl⟩⟩)
  go_ret2
  exact add_no (pw_below_drewN (Below.refl _ _) _)
set_option maxHeartbeats 2000000 in
set_option maxRecDepth 100000 in
theorem sRank_long (A : Option Addr) (c n : Nat) (key : ByteArray) (hk : 100 < key.size) (w : World)
    (hlive : Calls Tryd.prog 17 #[.slice A n c] w fun e w' => e = .returned (.bool true) ∧ Drawn0 w w') :
    Calls Tryd.prog 46 #[.slice A n c, .string key] w (AddPost w [] false) := by
  have hk1 : (key.size : Int) > 100 := by omega
  have hk2 : decide ((key.size : Int) > 100) = true := decide_eq_true hk1
  clear hk
  go_enter Tryd.func46, Tryd.ntmps46
  go_wp2_with (go_at_call 17; refine hlive.mono ?_; rintro e w1 ⟨rfl, ⟨nd, rfl⟩⟩)
  go_ret2
  exact add_no (pw_below_drewN (Below.refl _ _) _)
theorem rd_map (f : ByteArray → Int) (P : List ByteArray) (kx : Int) (h0 : 0 ≤ kx) (h1 : kx < P.length) : rd (P.map f) kx = f (P.getD kx.toNat ByteArray.empty) := by
  obtain ⟨k, rfl⟩ := Int.eq_ofNat_of_zero_le h0
  have hk : k < P.length := by omega
  rw [Int.toNat_natCast]
  simp [rd, List.getD_eq_getElem?_getD, hk]
theorem infoS9 : (Tryd.prog.info? 9).map (fun i => (i.zero, i.size, i.bytes)) = some (some (.string ⟨#[]⟩), 1, 16) := by kernel_rfl
theorem infoI3 : (Tryd.prog.info? 3).map (fun i => (i.zero, i.size, i.bytes)) = some (some (.int .i64 0), 1, 8) := by kernel_rfl
/-- What a row of strings is, cut at a place. -/
theorem cutS (A : Option Addr) (c : Nat) (P : List ByteArray) (kx : Int) (h0 : 0 ≤ kx) (h1 : kx ≤ P.length) (hc : P.length ≤ c) (w : World) (hC : Kd.C Kd.string w A P.length P) :
    (∀ W : World, (Instr.slice 23 (.slice A P.length c) none (some (.int .i64 kx)) none).run Tryd.prog W = .ok (.slice A kx.toNat c) W) ∧ Kd.C Kd.string w A kx.toNat (P.take kx.toNat) ∧
    ∃ A', (∀ W : World, (Instr.slice 23 (.slice A P.length c) (some (.int .i64 kx)) none none).run Tryd.prog W = .ok (.slice A' (P.drop kx.toNat).length (c - kx.toNat)) W) ∧ Kd.C Kd.string w A' (P.drop kx.toNat).length (P.drop kx.toNat) := by
  have hl : (P.take kx.toNat).length = kx.toNat := by rw [List.length_take]; omega
  obtain ⟨i0, hi, _, hsz, _⟩ := info_parts infoS9
  obtain ⟨q1, q2, q3⟩ := print_take_of (P := Tryd.prog) Value.string (⟨#[]⟩ : ByteArray) 23 9 .i64 Tryd.underlying23 hi hsz A c P kx h0 h1 hc
  obtain ⟨A', p1, p2, p3⟩ := print_drop_of (P := Tryd.prog) Value.string (⟨#[]⟩ : ByteArray) 23 9 .i64 Tryd.underlying23 hi hsz A c P kx h0 h1 hc
  have r1 := Kd.C_of_reads (h1 := fun _ => rfl) (q2 _ (Kd.reads_of_C hC))
  have r2 := Kd.C_of_reads (h1 := fun _ => rfl) (p2 _ (Kd.reads_of_C hC))
  rw [hl] at q1 r1
  exact ⟨q1, r1, A', p1, r2⟩
theorem cutI (A : Option Addr) (c : Nat) (P : List Int) (kx : Int) (h0 : 0 ≤ kx) (h1 : kx ≤ P.length) (hc : P.length ≤ c) (w : World) (hC : Kd.C (Kd.int .i64) w A P.length P) :
    (∀ W : World, (Instr.slice 96 (.slice A P.length c) none (some (.int .i64 kx)) none).run Tryd.prog W = .ok (.slice A kx.toNat c) W) ∧ Kd.C (Kd.int .i64) w A kx.toNat (P.take kx.toNat) ∧
    ∃ A', (∀ W : World, (Instr.slice 96 (.slice A P.length c) (some (.int .i64 kx)) none none).run Tryd.prog W = .ok (.slice A' (P.drop kx.toNat).length (c - kx.toNat)) W) ∧ Kd.C (Kd.int .i64) w A' (P.drop kx.toNat).length (P.drop kx.toNat) := by
  have hl : (P.take kx.toNat).length = kx.toNat := by rw [List.length_take]; omega
  obtain ⟨i0, hi, _, hsz, _⟩ := info_parts infoI3
  obtain ⟨q1, q2, q3⟩ := print_take_of (P := Tryd.prog) (Value.int .i64) (0 : Int) 96 3 .i64 Tryd.underlying96 hi hsz A c P kx h0 h1 hc
  obtain ⟨A', p1, p2, p3⟩ := print_drop_of (P := Tryd.prog) (Value.int .i64) (0 : Int) 96 3 .i64 Tryd.underlying96 hi hsz A c P kx h0 h1 hc
  have r1 := Kd.C_of_reads (h1 := fun _ => rfl) (q2 _ (Kd.reads_of_C hC))
  have r2 := Kd.C_of_reads (h1 := fun _ => rfl) (p2 _ (Kd.reads_of_C hC))
  rw [hl] at q1 r1
  exact ⟨q1, r1, A', p1, r2⟩
set_option maxHeartbeats 8000000 in
set_option maxRecDepth 100000 in
theorem sRank_done (A : Option Addr) (c n : Nat) (l : List ByteArray) (key : ByteArray) (hk : key.size ≤ 100) (hn : n = l.length) (hl : n ≤ 12) (hs : ∀ s, s ∈ l → s.size ≤ 1000) (w : World) (hr : Kd.C Kd.string w A n l)
    (hlive : Calls Tryd.prog 17 #[.slice A n c] w fun e w' => e = .returned (.bool true) ∧ Drawn0 w w') :
    Calls Tryd.prog 46 #[.slice A n c, .string key] w (AddPost w (rkL (scF key) l) true) := by
  have hk1 : ¬ (key.size : Int) > 100 := by omega
  have hk2 : decide ((key.size : Int) > 100) = false := decide_eq_false hk1
  have HR := Aside0.mk hr
  have HN := Aside0.mk (And.intro hn (And.intro hl (And.intro hs (show key.size ≤ 1000 by omega))))
  clear hr hn hl hs hk
  go_enter Tryd.func46, Tryd.ntmps46
  go_wp2_with (first
    | (go_at_call 17; refine hlive.mono ?_; rintro e w1 ⟨rfl, ⟨nd, rfl⟩⟩; have HB1 := Aside0.mk (pw_below_drewN (Below.refl w.heap.size w) nd))
    | (go_at_call 83; refine (l4New_walk _).mono ?_; rintro e w2 ⟨g, rfl, hH, hB1⟩; have S0 := Aside0.mk (And.intro hH (HB1.out.trans (hB1.mono HB1.out.size))); clear hH hB1))
  go_loopg [6, 7, 26] n (fun g1 vo vs vi wr => ∃ (xi : Int) (P : List ByteArray), vi = .int .i64 xi ∧ Aside0 (0 ≤ xi ∧ xi ≤ n ∧ n - xi.toNat ≤ g1 ∧ P.length ≤ xi.toNat) ∧ Aside0 (Kd.R Kd.string 9 wr w.heap.size (fun _ => True) vo P ∧ Kd.R (Kd.int .i64) 3 wr w.heap.size (fun _ => True) vs (P.map (scF key))) ∧ Aside0 (Hok wr g ∧ Below w.heap.size w wr) ∧ Aside0 ((l.drop xi.toNat).foldl (fun P x => insF (scF key) x P) P = rkL (scF key) l))
  case atStart => exact ⟨0, [], rfl, ⟨by omega, by omega, by simp, by simp⟩, ⟨Kd.R_nil _ _ _ _ _, Kd.R_nil _ _ _ _ _⟩, S0, ⟨rfl⟩⟩
  case round =>
    clear S0
    obtain ⟨xi, P, rfl, X, R1, S1, HO⟩ := hrel
    by_cases hlt : xi < (n : Int)
    · have p1 : 0 ≤ xi := X.out.1
      have ra : IntKind.i64.wrap (xi + 1) = xi + 1 := by rw [IntKind.wrap_i64]; have := HN.out.2.1; omega
      obtain ⟨ad, rfl, hcell⟩ := Kd.at_string (Kd.C_below HR.out S1.out.2) xi p1 hlt
      obtain ⟨s, hd, hs, hmem⟩ := rdS_D l xi p1 (by have := HN.out.1; omega)
      rw [hs] at hcell
      have hsc := fun W hH => l9Score_walk s key (HN.out.2.2.1 s hmem) HN.out.2.2.2 g W hH
      obtain ⟨v, hv⟩ : ∃ v, v = scF key s := ⟨_, rfl⟩
      have hv2 : scN s key = v := hv.symm
      rw [hv2] at hsc
      have HV := Aside0.mk (And.intro hd (And.intro hv HO.out))
      obtain ⟨S, hS⟩ : ∃ S, S = P.map (scF key) := ⟨_, rfl⟩
      have hR2 := R1.out.2
      rw [← hS] at hR2
      have hSl : S.length = P.length := by rw [hS, List.length_map]
      obtain ⟨Ao, co, rfl, hco, hCo⟩ := Kd.R_reads R1.out.1
      obtain ⟨As, cs, rfl, hcs, hCs⟩ := Kd.R_reads hR2
      have HSE := Aside0.mk hS
      have HC := Aside0.mk (And.intro hco (And.intro hcs hSl))
      have CO0 := Aside0.mk hCo
      have CS0 := Aside0.mk hCs
      clear hd hs hmem hv hv2 HO hS hR2 hSl hco hcs hCo hCs R1
      go_wp2_with (go_at_call 82; refine (hsc _ S1.out.1).mono ?_; rintro e w4 ⟨rfl, hB2⟩; have HB2 := Aside0.mk hB2; clear hB2)
      have CO := Aside0.mk (Kd.C_below CO0.out HB2.out)
      have CS := Aside0.mk (Kd.C_below CS0.out HB2.out)
      clear CO0 CS0 hsc
      go_loopg [12] P.length (fun g2 vk wr2 => ∃ kx : Int, vk = .int .i64 kx ∧ Aside0 (0 ≤ kx ∧ kx ≤ P.length ∧ P.length - kx.toNat ≤ g2) ∧ Aside0 (∀ j, j < kx.toNat → v ≤ scF key (P.getD j ByteArray.empty)) ∧ w4 = wr2)
      case atStart => exact ⟨0, rfl, ⟨by omega, by omega, by simp⟩, ⟨fun j hj => absurd hj (Nat.not_lt_zero _)⟩, rfl⟩
      case round =>
        obtain ⟨kx, rfl, KX, HJ, rfl⟩ := hrel
        have kp1 : 0 ≤ kx := KX.out.1
        by_cases hk : kx < (P.length : Int)
        · have hk' : decide (kx < (P.length : Int)) = true := decide_eq_true hk
          have hkS : kx < (S.length : Int) := by have := HC.out.2.2; omega
          obtain ⟨ads, rfl, hce⟩ := Kd.at_int CS.out kx kp1 hkS
          have rk : IntKind.i64.wrap (kx + 1) = kx + 1 := by rw [IntKind.wrap_i64]; have := HN.out.2.1; have := X.out; omega
          obtain ⟨u, hu⟩ : ∃ u, u = rd S kx := ⟨_, rfl⟩
          rw [← hu] at hce
          have hu2 : u = scF key (P.getD kx.toNat ByteArray.empty) := by rw [hu, HSE.out]; exact rd_map (scF key) P kx kp1 hk
          have HU := Aside0.mk hu2
          clear hu hu2
          by_cases hge : u ≥ v
          · have hge' : decide (u ≥ v) = true := decide_eq_true hge
            go_wp2
            go_roundg (P.length - (kx + 1).toNat)
            case measure => have := KX.out.2.2; omega
            case rel =>
              refine ⟨kx + 1, by first | rfl | rw [rk], ⟨by omega, by omega, Nat.le_refl _⟩, ⟨fun j hj => ?_⟩, rfl⟩
              by_cases hjk : j < kx.toNat
              · exact HJ.out j hjk
              · obtain rfl : j = kx.toNat := by omega
                rw [← HU.out]; exact hge
          · have hge' : decide (u ≥ v) = false := decide_eq_false hge
            have hkP : kx ≤ (P.length : Int) := by omega
            have hstop : kx.toNat < P.length → scF key (P.getD kx.toNat ByteArray.empty) < v := fun _ => by rw [← HU.out]; omega
            have HSTOP := Aside0.mk hstop
            clear hstop
            have HKP := Aside0.mk hkP
            clear hkP
            obtain ⟨ct1, ct2, Ao', ct3, ct4⟩ := cutS Ao co P kx kp1 HKP.out HC.out.1 w4 CO.out
            obtain ⟨cu1, cu2, As', cu3, cu4⟩ := cutI _ cs S kx kp1 (by have := HC.out.2.2; have := HKP.out; omega) HC.out.2.1 w4 CS.out
            obtain ⟨kn, hkn⟩ : ∃ kn, kn = kx.toNat := ⟨_, rfl⟩
            rw [← hkn] at ct1 ct2 ct3 ct4 cu1 cu2 cu3 cu4
            obtain ⟨T1, hT1⟩ : ∃ T1, T1 = P.take kn := ⟨_, rfl⟩
            obtain ⟨D1, hD1⟩ : ∃ D1, D1 = P.drop kn := ⟨_, rfl⟩
            obtain ⟨T2, hT2⟩ : ∃ T2, T2 = S.take kn := ⟨_, rfl⟩
            obtain ⟨D2, hD2⟩ : ∃ D2, D2 = S.drop kn := ⟨_, rfl⟩
            rw [← hT1] at ct2
            rw [← hD1] at ct3 ct4
            rw [← hT2] at cu2
            rw [← hD2] at cu3 cu4
            have LEN : Aside0 (kn ≤ 12 ∧ T1.length ≤ 12 ∧ T2.length ≤ 12 ∧ D1.length ≤ 12 ∧ D2.length ≤ 12 ∧ (([] : List ByteArray) ++ T1).length ≤ 12 ∧ (([] : List Int) ++ T2).length ≤ 12 ∧ (([] : List ByteArray) ++ T1 ++ [s]).length ≤ 13 ∧ (([] : List Int) ++ T2 ++ [v]).length ≤ 13) := by
              have q1 := HC.out.2.2
              have q2 := HKP.out
              have q3 := X.out
              have q4 := HN.out.2.1
              have e1 : T1.length ≤ P.length := by rw [hT1, List.length_take]; omega
              have e2 : T2.length ≤ S.length := by rw [hT2, List.length_take]; omega
              have e3 : D1.length ≤ P.length := by rw [hD1, List.length_drop]; omega
              have e4 : D2.length ≤ S.length := by rw [hD2, List.length_drop]; omega
              have e5 : (([] : List ByteArray) ++ T1).length = T1.length := rfl
              have e6 : (([] : List Int) ++ T2).length = T2.length := rfl
              have e7 : (([] : List ByteArray) ++ T1 ++ [s]).length = T1.length + 1 := by simp
              have e8 : (([] : List Int) ++ T2 ++ [v]).length = T2.length + 1 := by simp
              exact ⟨by omega, by omega, by omega, by omega, by omega, by omega, by omega, by omega, by omega⟩
            have FIN : Aside0 ((([] : List Int) ++ T2 ++ [v] ++ D2) = (([] : List ByteArray) ++ T1 ++ [s] ++ D1).map (scF key) ∧ insF (scF key) s P = (([] : List ByteArray) ++ T1 ++ [s] ++ D1)) := by
              have e := insF_at (scF key) s P kx.toNat (by have := HKP.out; omega) (fun j hj => by rw [← HV.out.2.1]; exact HJ.out j hj) (fun h => by rw [← HV.out.2.1]; exact HSTOP.out (by omega))
              rw [← hkn, ← hT1, ← hD1] at e
              refine ⟨?_, by rw [e]; simp⟩
              rw [hT2, hD2, hT1, hD1, HSE.out, HV.out.2.1]
              simp
            have CT := Aside0.mk ct2
            have CD := Aside0.mk ct4
            have CU := Aside0.mk cu2
            have CE := Aside0.mk cu4
            have HQ := Aside0.mk (And.intro hkn (And.intro hT1 (And.intro hD1 (And.intro hT2 hD2))))
            obtain ⟨dn1, hdn1⟩ : ∃ d, d = D1.length := ⟨_, rfl⟩
            obtain ⟨dn2, hdn2⟩ : ∃ d, d = D2.length := ⟨_, rfl⟩
            clear hkn hT1 hD1 hT2 hD2 ct2 ct4 cu2 cu4 HSTOP HJ
            have HB := Aside0.mk (Below.refl w4.heap.size w4)
            clear hdn1 hdn2
            go_wp2_with (first
            | ((with_reducible refine gate_builtin (b := .append) (xs := #[.tmp 48, .tmp 51]) rfl ?_); at_builtin; refine Kd.R_append_rows Kd.string (w0 := w4) w4.heap.size rfl (.tmp 48) (.tmp 51) 23 9 (.string ⟨#[]⟩) 16 rfl Tryd.underlying23 infoS9 rfl (by decide) (by omega) (.slice none 0 0) ([] : List ByteArray) T1 _ _ _ (fun _ => True) (fun _ => False) rfl rfl ?aO ?aR (fun _ _ h => h) (fun _ h => h.elim) ?aF ?aB ?aS ?aL ?_; (case aR => exact Kd.C_below CT.out HB.out); (case aB => exact HB.out); (case aF => exact (fun _ _ => trivial)); (case aO => exact Kd.R_nil _ _ _ _ (fun _ => True)); (case aS => exact HB.out.size); (case aL => have := LEN.out; have e0_ : ([] : List ByteArray).length = 0 := rfl; have e1_ : ([] : List Int).length = 0 := rfl; omega); intro x1 w5 ho hb hg hat; have X1 := Aside0.mk ho; clear HB; have HB := Aside0.mk hb; clear ho hb hg hat)
            | ((with_reducible refine gate_builtin (b := .append) (xs := #[.tmp 53, .tmp 56]) rfl ?_); at_builtin; refine Kd.R_append_rows (Kd.int .i64) (w0 := w4) w4.heap.size rfl (.tmp 53) (.tmp 56) 96 3 (.int .i64 0) 8 rfl Tryd.underlying96 infoI3 rfl (by decide) (by omega) (.slice none 0 0) ([] : List Int) T2 _ _ _ (fun _ => True) (fun _ => False) rfl rfl ?aO ?aR (fun _ _ h => h) (fun _ h => h.elim) ?aF ?aB ?aS ?aL ?_; (case aR => exact Kd.C_below CU.out HB.out); (case aB => exact HB.out); (case aF => exact (fun _ _ => trivial)); (case aO => exact Kd.R_nil _ _ _ _ (fun _ => True)); (case aS => exact HB.out.size); (case aL => have := LEN.out; have e0_ : ([] : List ByteArray).length = 0 := rfl; have e1_ : ([] : List Int).length = 0 := rfl; omega); intro y1 w6 ho hb hg hat; have Y1 := Aside0.mk ho; have X2 := Aside0.mk (Kd.R_grown X1.out hg (fun _ _ h => by cases h)); clear X1; clear HB; have HB := Aside0.mk hb; clear ho hb hg hat)
            | ((with_reducible refine gate_builtin (b := .append) (xs := #[.tmp 58, .tmp 60]) rfl ?_); at_builtin; refine Kd.R_append Kd.string (w0 := w4) w4.heap.size rfl (.tmp 58) (.tmp 60) 23 9 (.string ⟨#[]⟩) 16 rfl Tryd.underlying23 infoS9 rfl (by decide) (by omega) x1 (([] : List ByteArray) ++ T1) s [.string s] (fun _ => True) (fun _ => False) rfl rfl ?aP (fun _ hk => hk.elim) ?aF ?aO ?aB ?aS ?aL ?_; (case aP => exact rfl); (case aB => exact HB.out); (case aF => exact (fun _ _ => trivial)); (case aO => exact X2.out); (case aS => exact HB.out.size); (case aL => have := LEN.out; have e0_ : ([] : List ByteArray).length = 0 := rfl; have e1_ : ([] : List Int).length = 0 := rfl; omega); intro x2 w7 ho hb hg hat; have X3 := Aside0.mk ho; have Y2 := Aside0.mk (Kd.R_over' Y1.out (Kd.R_typed X2.out) (by decide) hg); clear Y1 X2; clear HB; have HB := Aside0.mk hb; clear ho hb hg hat)
            | ((with_reducible refine gate_builtin (b := .append) (xs := #[.tmp 62, .tmp 64]) rfl ?_); at_builtin; refine Kd.R_append (Kd.int .i64) (w0 := w4) w4.heap.size rfl (.tmp 62) (.tmp 64) 96 3 (.int .i64 0) 8 rfl Tryd.underlying96 infoI3 rfl (by decide) (by omega) y1 (([] : List Int) ++ T2) v [.int .i64 v] (fun _ => True) (fun _ => False) rfl rfl ?aP (fun _ hk => hk.elim) ?aF ?aO ?aB ?aS ?aL ?_; (case aP => exact rfl); (case aB => exact HB.out); (case aF => exact (fun _ _ => trivial)); (case aO => exact Y2.out); (case aS => exact HB.out.size); (case aL => have := LEN.out; have e0_ : ([] : List ByteArray).length = 0 := rfl; have e1_ : ([] : List Int).length = 0 := rfl; omega); intro y2 w8 ho hb hg hat; have Y3 := Aside0.mk ho; have X4 := Aside0.mk (Kd.R_over' X3.out (Kd.R_typed Y2.out) (by decide) hg); clear X3 Y2; clear HB; have HB := Aside0.mk hb; clear ho hb hg hat)
            | ((with_reducible refine gate_builtin (b := .append) (xs := #[.tmp 66, .tmp 69]) rfl ?_); at_builtin; refine Kd.R_append_rows Kd.string (w0 := w4) w4.heap.size rfl (.tmp 66) (.tmp 69) 23 9 (.string ⟨#[]⟩) 16 rfl Tryd.underlying23 infoS9 rfl (by decide) (by omega) x2 (([] : List ByteArray) ++ T1 ++ [s]) D1 _ _ _ (fun _ => True) (fun _ => False) rfl rfl ?aO ?aR (fun _ _ h => h) (fun _ h => h.elim) ?aF ?aB ?aS ?aL ?_; (case aR => exact Kd.C_below CD.out HB.out); (case aB => exact HB.out); (case aF => exact (fun _ _ => trivial)); (case aO => exact X4.out); (case aS => exact HB.out.size); (case aL => have := LEN.out; have e0_ : ([] : List ByteArray).length = 0 := rfl; have e1_ : ([] : List Int).length = 0 := rfl; omega); intro x3 w9 ho hb hg hat; have X5 := Aside0.mk ho; have Y4 := Aside0.mk (Kd.R_over' Y3.out (Kd.R_typed X4.out) (by decide) hg); clear X4 Y3; clear HB; have HB := Aside0.mk hb; clear ho hb hg hat)
            | ((with_reducible refine gate_builtin (b := .append) (xs := #[.tmp 71, .tmp 74]) rfl ?_); at_builtin; refine Kd.R_append_rows (Kd.int .i64) (w0 := w4) w4.heap.size rfl (.tmp 71) (.tmp 74) 96 3 (.int .i64 0) 8 rfl Tryd.underlying96 infoI3 rfl (by decide) (by omega) y2 (([] : List Int) ++ T2 ++ [v]) D2 _ _ _ (fun _ => True) (fun _ => False) rfl rfl ?aO ?aR (fun _ _ h => h) (fun _ h => h.elim) ?aF ?aB ?aS ?aL ?_; (case aR => exact Kd.C_below CE.out HB.out); (case aB => exact HB.out); (case aF => exact (fun _ _ => trivial)); (case aO => exact Y4.out); (case aS => exact HB.out.size); (case aL => have := LEN.out; have e0_ : ([] : List ByteArray).length = 0 := rfl; have e1_ : ([] : List Int).length = 0 := rfl; omega); intro y3 w10 ho hb hg hat; have Y5 := Aside0.mk ho; have X6 := Aside0.mk (Kd.R_over' X5.out (Kd.R_typed Y4.out) (by decide) hg); clear X5 Y4; clear HB; have HB := Aside0.mk hb; clear ho hb hg hat))
            go_roundg (n - (xi + 1).toNat)
            case measure => have := X.out.2.2; omega
            case rel =>
              have hsz4 : w.heap.size ≤ w4.heap.size := Nat.le_trans S1.out.2.size HB2.out.size
              refine ⟨xi + 1, ([] : List ByteArray) ++ T1 ++ [s] ++ D1, by first | rfl | rw [ra], ⟨by omega, by omega, Nat.le_refl _, ?_⟩, ⟨Kd.R_lower X6.out hsz4, ?_⟩, ⟨(S1.out.1.below HB2.out).below (HB.out), (S1.out.2.trans (HB2.out.mono S1.out.2.size)).trans (HB.out.mono hsz4)⟩, ⟨?_⟩⟩
              · have e := insF_length (scF key) s P
                rw [FIN.out.2] at e
                have := X.out.2.2.2
                omega
              · rw [← FIN.out.1]; exact Kd.R_lower Y5.out hsz4
              · obtain ⟨h1, h2, h3⟩ := HV.out
                rw [h1, List.foldl_cons, FIN.out.2] at h3
                exact h3
        · have hk' : decide (kx < (P.length : Int)) = false := decide_eq_false hk
          have hkP : kx ≤ (P.length : Int) := KX.out.2.1
          have hstop : kx.toNat < P.length → scF key (P.getD kx.toNat ByteArray.empty) < v := fun h => by omega
          have HSTOP := Aside0.mk hstop
          clear hstop
          have HKP := Aside0.mk hkP
          clear hkP
          obtain ⟨ct1, ct2, Ao', ct3, ct4⟩ := cutS Ao co P kx kp1 HKP.out HC.out.1 w4 CO.out
          obtain ⟨cu1, cu2, As', cu3, cu4⟩ := cutI _ cs S kx kp1 (by have := HC.out.2.2; have := HKP.out; omega) HC.out.2.1 w4 CS.out
          obtain ⟨kn, hkn⟩ : ∃ kn, kn = kx.toNat := ⟨_, rfl⟩
          rw [← hkn] at ct1 ct2 ct3 ct4 cu1 cu2 cu3 cu4
          obtain ⟨T1, hT1⟩ : ∃ T1, T1 = P.take kn := ⟨_, rfl⟩
          obtain ⟨D1, hD1⟩ : ∃ D1, D1 = P.drop kn := ⟨_, rfl⟩
          obtain ⟨T2, hT2⟩ : ∃ T2, T2 = S.take kn := ⟨_, rfl⟩
          obtain ⟨D2, hD2⟩ : ∃ D2, D2 = S.drop kn := ⟨_, rfl⟩
          rw [← hT1] at ct2
          rw [← hD1] at ct3 ct4
          rw [← hT2] at cu2
          rw [← hD2] at cu3 cu4
          have LEN : Aside0 (kn ≤ 12 ∧ T1.length ≤ 12 ∧ T2.length ≤ 12 ∧ D1.length ≤ 12 ∧ D2.length ≤ 12 ∧ (([] : List ByteArray) ++ T1).length ≤ 12 ∧ (([] : List Int) ++ T2).length ≤ 12 ∧ (([] : List ByteArray) ++ T1 ++ [s]).length ≤ 13 ∧ (([] : List Int) ++ T2 ++ [v]).length ≤ 13) := by
            have q1 := HC.out.2.2
            have q2 := HKP.out
            have q3 := X.out
            have q4 := HN.out.2.1
            have e1 : T1.length ≤ P.length := by rw [hT1, List.length_take]; omega
            have e2 : T2.length ≤ S.length := by rw [hT2, List.length_take]; omega
            have e3 : D1.length ≤ P.length := by rw [hD1, List.length_drop]; omega
            have e4 : D2.length ≤ S.length := by rw [hD2, List.length_drop]; omega
            have e5 : (([] : List ByteArray) ++ T1).length = T1.length := rfl
            have e6 : (([] : List Int) ++ T2).length = T2.length := rfl
            have e7 : (([] : List ByteArray) ++ T1 ++ [s]).length = T1.length + 1 := by simp
            have e8 : (([] : List Int) ++ T2 ++ [v]).length = T2.length + 1 := by simp
            exact ⟨by omega, by omega, by omega, by omega, by omega, by omega, by omega, by omega, by omega⟩
          have FIN : Aside0 ((([] : List Int) ++ T2 ++ [v] ++ D2) = (([] : List ByteArray) ++ T1 ++ [s] ++ D1).map (scF key) ∧ insF (scF key) s P = (([] : List ByteArray) ++ T1 ++ [s] ++ D1)) := by
            have e := insF_at (scF key) s P kx.toNat (by have := HKP.out; omega) (fun j hj => by rw [← HV.out.2.1]; exact HJ.out j hj) (fun h => by rw [← HV.out.2.1]; exact HSTOP.out (by omega))
            rw [← hkn, ← hT1, ← hD1] at e
            refine ⟨?_, by rw [e]; simp⟩
            rw [hT2, hD2, hT1, hD1, HSE.out, HV.out.2.1]
            simp
          have CT := Aside0.mk ct2
          have CD := Aside0.mk ct4
          have CU := Aside0.mk cu2
          have CE := Aside0.mk cu4
          have HQ := Aside0.mk (And.intro hkn (And.intro hT1 (And.intro hD1 (And.intro hT2 hD2))))
          obtain ⟨dn1, hdn1⟩ : ∃ d, d = D1.length := ⟨_, rfl⟩
          obtain ⟨dn2, hdn2⟩ : ∃ d, d = D2.length := ⟨_, rfl⟩
          clear hkn hT1 hD1 hT2 hD2 ct2 ct4 cu2 cu4 HSTOP HJ
          have HB := Aside0.mk (Below.refl w4.heap.size w4)
          clear hdn1 hdn2
          go_wp2_with (first
            | ((with_reducible refine gate_builtin (b := .append) (xs := #[.tmp 48, .tmp 51]) rfl ?_); at_builtin; refine Kd.R_append_rows Kd.string (w0 := w4) w4.heap.size rfl (.tmp 48) (.tmp 51) 23 9 (.string ⟨#[]⟩) 16 rfl Tryd.underlying23 infoS9 rfl (by decide) (by omega) (.slice none 0 0) ([] : List ByteArray) T1 _ _ _ (fun _ => True) (fun _ => False) rfl rfl ?aO ?aR (fun _ _ h => h) (fun _ h => h.elim) ?aF ?aB ?aS ?aL ?_; (case aR => exact Kd.C_below CT.out HB.out); (case aB => exact HB.out); (case aF => exact (fun _ _ => trivial)); (case aO => exact Kd.R_nil _ _ _ _ (fun _ => True)); (case aS => exact HB.out.size); (case aL => have := LEN.out; have e0_ : ([] : List ByteArray).length = 0 := rfl; have e1_ : ([] : List Int).length = 0 := rfl; omega); intro x1 w5 ho hb hg hat; have X1 := Aside0.mk ho; clear HB; have HB := Aside0.mk hb; clear ho hb hg hat)
            | ((with_reducible refine gate_builtin (b := .append) (xs := #[.tmp 53, .tmp 56]) rfl ?_); at_builtin; refine Kd.R_append_rows (Kd.int .i64) (w0 := w4) w4.heap.size rfl (.tmp 53) (.tmp 56) 96 3 (.int .i64 0) 8 rfl Tryd.underlying96 infoI3 rfl (by decide) (by omega) (.slice none 0 0) ([] : List Int) T2 _ _ _ (fun _ => True) (fun _ => False) rfl rfl ?aO ?aR (fun _ _ h => h) (fun _ h => h.elim) ?aF ?aB ?aS ?aL ?_; (case aR => exact Kd.C_below CU.out HB.out); (case aB => exact HB.out); (case aF => exact (fun _ _ => trivial)); (case aO => exact Kd.R_nil _ _ _ _ (fun _ => True)); (case aS => exact HB.out.size); (case aL => have := LEN.out; have e0_ : ([] : List ByteArray).length = 0 := rfl; have e1_ : ([] : List Int).length = 0 := rfl; omega); intro y1 w6 ho hb hg hat; have Y1 := Aside0.mk ho; have X2 := Aside0.mk (Kd.R_grown X1.out hg (fun _ _ h => by cases h)); clear X1; clear HB; have HB := Aside0.mk hb; clear ho hb hg hat)
            | ((with_reducible refine gate_builtin (b := .append) (xs := #[.tmp 58, .tmp 60]) rfl ?_); at_builtin; refine Kd.R_append Kd.string (w0 := w4) w4.heap.size rfl (.tmp 58) (.tmp 60) 23 9 (.string ⟨#[]⟩) 16 rfl Tryd.underlying23 infoS9 rfl (by decide) (by omega) x1 (([] : List ByteArray) ++ T1) s [.string s] (fun _ => True) (fun _ => False) rfl rfl ?aP (fun _ hk => hk.elim) ?aF ?aO ?aB ?aS ?aL ?_; (case aP => exact rfl); (case aB => exact HB.out); (case aF => exact (fun _ _ => trivial)); (case aO => exact X2.out); (case aS => exact HB.out.size); (case aL => have := LEN.out; have e0_ : ([] : List ByteArray).length = 0 := rfl; have e1_ : ([] : List Int).length = 0 := rfl; omega); intro x2 w7 ho hb hg hat; have X3 := Aside0.mk ho; have Y2 := Aside0.mk (Kd.R_over' Y1.out (Kd.R_typed X2.out) (by decide) hg); clear Y1 X2; clear HB; have HB := Aside0.mk hb; clear ho hb hg hat)
            | ((with_reducible refine gate_builtin (b := .append) (xs := #[.tmp 62, .tmp 64]) rfl ?_); at_builtin; refine Kd.R_append (Kd.int .i64) (w0 := w4) w4.heap.size rfl (.tmp 62) (.tmp 64) 96 3 (.int .i64 0) 8 rfl Tryd.underlying96 infoI3 rfl (by decide) (by omega) y1 (([] : List Int) ++ T2) v [.int .i64 v] (fun _ => True) (fun _ => False) rfl rfl ?aP (fun _ hk => hk.elim) ?aF ?aO ?aB ?aS ?aL ?_; (case aP => exact rfl); (case aB => exact HB.out); (case aF => exact (fun _ _ => trivial)); (case aO => exact Y2.out); (case aS => exact HB.out.size); (case aL => have := LEN.out; have e0_ : ([] : List ByteArray).length = 0 := rfl; have e1_ : ([] : List Int).length = 0 := rfl; omega); intro y2 w8 ho hb hg hat; have Y3 := Aside0.mk ho; have X4 := Aside0.mk (Kd.R_over' X3.out (Kd.R_typed Y2.out) (by decide) hg); clear X3 Y2; clear HB; have HB := Aside0.mk hb; clear ho hb hg hat)
            | ((with_reducible refine gate_builtin (b := .append) (xs := #[.tmp 66, .tmp 69]) rfl ?_); at_builtin; refine Kd.R_append_rows Kd.string (w0 := w4) w4.heap.size rfl (.tmp 66) (.tmp 69) 23 9 (.string ⟨#[]⟩) 16 rfl Tryd.underlying23 infoS9 rfl (by decide) (by omega) x2 (([] : List ByteArray) ++ T1 ++ [s]) D1 _ _ _ (fun _ => True) (fun _ => False) rfl rfl ?aO ?aR (fun _ _ h => h) (fun _ h => h.elim) ?aF ?aB ?aS ?aL ?_; (case aR => exact Kd.C_below CD.out HB.out); (case aB => exact HB.out); (case aF => exact (fun _ _ => trivial)); (case aO => exact X4.out); (case aS => exact HB.out.size); (case aL => have := LEN.out; have e0_ : ([] : List ByteArray).length = 0 := rfl; have e1_ : ([] : List Int).length = 0 := rfl; omega); intro x3 w9 ho hb hg hat; have X5 := Aside0.mk ho; have Y4 := Aside0.mk (Kd.R_over' Y3.out (Kd.R_typed X4.out) (by decide) hg); clear X4 Y3; clear HB; have HB := Aside0.mk hb; clear ho hb hg hat)
            | ((with_reducible refine gate_builtin (b := .append) (xs := #[.tmp 71, .tmp 74]) rfl ?_); at_builtin; refine Kd.R_append_rows (Kd.int .i64) (w0 := w4) w4.heap.size rfl (.tmp 71) (.tmp 74) 96 3 (.int .i64 0) 8 rfl Tryd.underlying96 infoI3 rfl (by decide) (by omega) y2 (([] : List Int) ++ T2 ++ [v]) D2 _ _ _ (fun _ => True) (fun _ => False) rfl rfl ?aO ?aR (fun _ _ h => h) (fun _ h => h.elim) ?aF ?aB ?aS ?aL ?_; (case aR => exact Kd.C_below CE.out HB.out); (case aB => exact HB.out); (case aF => exact (fun _ _ => trivial)); (case aO => exact Y4.out); (case aS => exact HB.out.size); (case aL => have := LEN.out; have e0_ : ([] : List ByteArray).length = 0 := rfl; have e1_ : ([] : List Int).length = 0 := rfl; omega); intro y3 w10 ho hb hg hat; have Y5 := Aside0.mk ho; have X6 := Aside0.mk (Kd.R_over' X5.out (Kd.R_typed Y4.out) (by decide) hg); clear X5 Y4; clear HB; have HB := Aside0.mk hb; clear ho hb hg hat))
          go_roundg (n - (xi + 1).toNat)
          case measure => have := X.out.2.2; omega
          case rel =>
            have hsz4 : w.heap.size ≤ w4.heap.size := Nat.le_trans S1.out.2.size HB2.out.size
            refine ⟨xi + 1, ([] : List ByteArray) ++ T1 ++ [s] ++ D1, by first | rfl | rw [ra], ⟨by omega, by omega, Nat.le_refl _, ?_⟩, ⟨Kd.R_lower X6.out hsz4, ?_⟩, ⟨(S1.out.1.below HB2.out).below (HB.out), (S1.out.2.trans (HB2.out.mono S1.out.2.size)).trans (HB.out.mono hsz4)⟩, ⟨?_⟩⟩
            · have e := insF_length (scF key) s P
              rw [FIN.out.2] at e
              have := X.out.2.2.2
              omega
            · rw [← FIN.out.1]; exact Kd.R_lower Y5.out hsz4
            · obtain ⟨h1, h2, h3⟩ := HV.out
              rw [h1, List.foldl_cons, FIN.out.2] at h3
              exact h3
    · go_wp2
      go_ret2
      have e : l.drop xi.toNat = [] := List.drop_eq_nil_of_le (by have := HN.out.1; have := X.out.1; omega)
      have h3 := HO.out
      rw [e] at h3
      refine ⟨_, rfl, ?_, S1.out.2⟩
      rw [← h3]
      exact R1.out.1
theorem sRank_calls (A : Option Addr) (c : Nat) (l : List ByteArray) (key : ByteArray) (r1 : List ByteArray) (r2 : Bool) (w : World) (hr : Kd.C Kd.string w A l.length l) (hc : l.length ≤ c) (h : rankA l key = some (r1, r2)) :
    Calls Tryd.prog 46 #[.slice A l.length c, .string key] w (AddPost w r1 r2) := by
  unfold rankA at h
  by_cases hok : okT l = true
  · rw [if_pos hok] at h
    obtain ⟨hl, hs⟩ := (okT_iff l).mp hok
    have hlive := spec_GoodLive.calls KK A c l (liveS l) w hr hc (live_spec KK l hl hs (by decide))
    by_cases hno : liveS l = false ∨ 100 < key.size
    · rw [if_pos hno] at h
      injection h with h
      injection h with e1 e2
      subst e1; subst e2
      cases hlv : liveS l with
      | false => rw [hlv] at hlive; exact sRank_dead A c l.length key w hlive
      | true =>
        rw [hlv] at hlive
        refine sRank_long A c l.length key ?_ w hlive
        rcases hno with q | q
        · rw [hlv] at q; cases q
        · exact q
    · rw [if_neg hno] at h
      injection h with h
      injection h with e1 e2
      subst e1; subst e2
      have hlv : liveS l = true := by
        cases q : liveS l with
        | true => rfl
        | false => exact absurd (.inl q) hno
      rw [hlv] at hlive
      have hk : key.size ≤ 100 := by omega
      obtain ⟨h12, hs12⟩ := liveS_sizes l hlv
      exact sRank_done A c l.length l key hk rfl h12 (fun s hq => by have := hs12 s hq; omega) w hr hlive
  · rw [if_neg hok] at h; cases h
end Go.Proofs.YtnghcnkffbjddaaDoorV.Aes
