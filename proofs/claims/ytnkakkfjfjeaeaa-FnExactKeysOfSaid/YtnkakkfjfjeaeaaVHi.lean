/- The program's functions above the hash, walked: hmac, HmacSha, HkdfExtract, HkdfExpand, byteCounted, ExpandLabel, expanded, NextSecret, KeysOf, Sha256. Conditions: none; each tells what it answers for all arguments. -/
import Derived.Test.YtnkakkfjfjeaeaaVHz
import Derived.Test.YtnkakkfjfjeaeaaPImplRx1
namespace Go.Proofs.YtnkakkfjfjeaeaaV.Aes
open Go.RowKit Go.Proofs.YtnkakkfjfjeaeaaV.PrintWords Go.Proofs.YtnkakkfjfjeaeaaV.PrintLast Go.Proofs.YtnkakkfjfjeaeaaV.PrintMore Go.Proofs.YtnkakkfjfjeaeaaV.Mem
set_option linter.unusedVariables false
set_option linter.unusedSimpArgs false

theorem bytesOf_append (a b : ByteArray) : bytesOf (a ++ b) = bytesOf a ++ bytesOf b := by
  unfold bytesOf
  rw [ByteArray.data_append, Array.toList_append, List.map_append]
theorem bytesOf_zeroB (m : Nat) : bytesOf (zeroB m) = List.replicate m 0 := by
  have hr : ∀ m, Lib.repeatL [0] m = List.replicate m 0 := by
    intro m
    induction m with
    | zero => rfl
    | succ m ih => rw [Lib.repeatL, ih]; rfl
  unfold bytesOf zeroB
  simp [hr]
theorem pad_loop (l : List Int) (c : Int) (hl : l.length = 64) : ∀ d i : Nat, i + d = 64 → Ev (fun k => Go.Proofs.Ytnkakkfjfjeaeaa.PImplR.impl_padded.l0 k c ((tab 64 fun i => Go.bits .xor .u8 (rd l (i : Int)) c).take i ++ l.drop i ++ []) 64 (i : Int)) (strOfNums (padX l c))
  | 0, i, h => by
    obtain rfl : i = 64 := by omega
    refine Ev.step (f := fun _ => some (strOfNums (padX l c))) (fun k => ?_) (Ev.now _)
    simp only [Go.Proofs.Ytnkakkfjfjeaeaa.PImplR.impl_padded.l0]
    rw [if_neg (by omega), tab_end _ _ _ _ hl, List.append_nil]
    rfl
  | d + 1, i, h => by
    refine Ev.step (fun k => ?_) (pad_loop l c hl d (i + 1) (by omega))
    simp only [Go.Proofs.Ytnkakkfjfjeaeaa.PImplR.impl_padded.l0]
    rw [if_pos (by omega), if_pos (by omega), if_pos (by rw [tab_both _ _ _ _ hl i (by omega)]; simp; omega), wrapS ((i : Int) + 1) ((i + 1 : Nat) : Int) (by omega) (by omega) (by omega), Int.toNat_natCast]
    rw [tab_rest 64 _ l [] hl i i (Nat.le_refl _) (by omega), tab_step 64 (fun i => Go.bits .xor .u8 (rd l (i : Int)) c) l [] hl i (by omega)]
theorem ev_padded (a : ByteArray) (c : Int) (ha : a.size = 64) : Ev (fun k => Go.Proofs.Ytnkakkfjfjeaeaa.PImplR.impl_padded.f k a c) (strOfNums (padX (bytesOf a) c)) := by
  have hl : (bytesOf a).length = 64 := by rw [bytesOf_length]; exact ha
  have h := pad_loop (bytesOf a) c hl 64 0 rfl
  rw [List.take_zero, List.drop_zero, List.nil_append, List.append_nil] at h
  refine Ev.congr (fun k => ?_) h
  unfold Go.Proofs.Ytnkakkfjfjeaeaa.PImplR.impl_padded.f
  rw [if_pos (by omega), Option.bind_some, hl]
  rfl
theorem trans6 {a b c d e f g : World} (h1 : Below a.heap.size a b) (h2 : Below b.heap.size b c) (h3 : Below c.heap.size c d) (h4 : Below d.heap.size d e) (h5 : Below e.heap.size e f) (h6 : Below f.heap.size f g) : Below a.heap.size a g :=
  ((((h1.trans (h2.mono h1.size)).trans (h3.mono (Nat.le_trans h1.size h2.size))).trans (h4.mono (Nat.le_trans (Nat.le_trans h1.size h2.size) h3.size))).trans (h5.mono (Nat.le_trans (Nat.le_trans (Nat.le_trans h1.size h2.size) h3.size) h4.size))).trans (h6.mono (Nat.le_trans (Nat.le_trans (Nat.le_trans (Nat.le_trans h1.size h2.size) h3.size) h4.size) h5.size))
theorem padded_walk (a : ByteArray) (c : Int) (ha : a.size = 64) (w : World) : Calls Try.prog 66 #[.string a, .int .u8 c] w fun e w' => e = .returned (.string (strOfNums (padX (bytesOf a) c))) ∧ Below w.heap.size w w' := by
  obtain ⟨k, hk⟩ := (ev_padded a c ha).rounds
  exact Go.Proofs.Ytnkakkfjfjeaeaa.PImplR.impl_padded.calls k a c _ w hk
set_option maxHeartbeats 4000000 in
set_option maxRecDepth 100000 in
theorem hmac_walk (key s : ByteArray) (hkey : key.size ≤ 100000) (hs : s.size ≤ 100000) (w : World) : Calls Try.prog 44 #[.string key, .string s] w fun e w' => e = .returned (.string (hmacS key s)) ∧ Below w.heap.size w w' := by
  have hfin : hmacS key s = shaS (strOfNums (padX (keyL key) 92) ++ shaS (strOfNums (padX (keyL key) 54) ++ s)) := rfl
  have hks := keyB_size key
  obtain ⟨K, hK⟩ : ∃ K, K = keyB key := ⟨_, rfl⟩
  have hkl : keyL key = bytesOf (K ++ zeroB (64 - K.size)) := by rw [bytesOf_append, bytesOf_zeroB, hK]; rfl
  rw [← hK] at hks
  have hzs := zeroB_size (64 - K.size)
  have hrep := rep_walk (64 - K.size) (by omega)
  have hsub : (64 : Int) - (K.size : Int) = ((64 - K.size : Nat) : Int) := by omega
  rw [← hsub] at hrep
  have hP : (K ++ zeroB (64 - K.size)).size = 64 := by rw [ByteArray.size_append, hzs]; omega
  obtain ⟨Z, hZ⟩ : ∃ Z, Z = zeroB (64 - K.size) := ⟨_, rfl⟩
  rw [← hZ] at hkl hzs hrep hP
  have hp1 := padded_walk (K ++ Z) 92 hP
  have hp2 := padded_walk (K ++ Z) 54 hP
  rw [← hkl] at hp1 hp2
  have z1 := padX_size (keyL key) 92
  have z2 := padX_size (keyL key) 54
  obtain ⟨P1, hP1⟩ : ∃ P1, P1 = strOfNums (padX (keyL key) 92) := ⟨_, rfl⟩
  obtain ⟨P2, hP2⟩ : ∃ P2, P2 = strOfNums (padX (keyL key) 54) := ⟨_, rfl⟩
  rw [← hP1] at hp1 z1 hfin
  rw [← hP2] at hp2 z2 hfin
  have hs1 := sha_walk (P2 ++ s) (by rw [ByteArray.size_append]; omega)
  have h32 := shaS_size (P2 ++ s)
  obtain ⟨t1, ht1⟩ : ∃ t1, t1 = shaS (P2 ++ s) := ⟨_, rfl⟩
  rw [← ht1] at hs1 h32 hfin
  have hs2 := sha_walk (P1 ++ t1) (by rw [ByteArray.size_append]; omega)
  rw [← hfin] at hs2
  have b1 : ¬ 9223372036854775807 < K.size + Z.size := by omega
  have b2 : ¬ 9223372036854775807 < P2.size + s.size := by omega
  have b3 : ¬ 9223372036854775807 < P1.size + t1.size := by omega
  have b4 : (K.size : Int) ≤ 64 := by omega
  by_cases h64 : 64 < key.size
  · have h64i : (key.size : Int) > 64 := by omega
    have hkB : K = shaS key := by rw [hK]; exact if_pos h64
    have hs0 := sha_walk key (by omega)
    rw [← hkB] at hs0
    clear hfin hK hkl hsub hP hZ hP1 hP2 ht1 hkB h64 hzs hks z1 z2 h32
    go_enter Try.func44, Try.ntmps44
    go_wp2_with (first
      | (go_at_call 42; (with_reducible refine (hs0 _).mono ?_); rintro e w0 ⟨rfl, hB0⟩)
      | (go_at_call 62; refine (hrep _).mono ?_; rintro e w1 ⟨rfl, hB1⟩)
      | (go_at_call 66; (with_reducible refine (hp1 _).mono ?_); rintro e w2 ⟨rfl, hB2⟩)
      | (go_at_call 66; (with_reducible refine (hp2 _).mono ?_); rintro e w3 ⟨rfl, hB3⟩)
      | (go_at_call 42; (with_reducible refine (hs1 _).mono ?_); rintro e w4 ⟨rfl, hB4⟩)
      | (go_at_call 42; (with_reducible refine (hs2 _).mono ?_); rintro e w5 ⟨rfl, hB5⟩))
    go_ret
    exact ⟨rfl, trans6 hB0 hB1 hB2 hB3 hB4 hB5⟩
  · have h64i : ¬ (key.size : Int) > 64 := by omega
    have hkB : K = key := by rw [hK]; exact if_neg h64
    clear hfin hK hkl hsub hP hZ hP1 hP2 ht1 h64 hzs hks z1 z2 h32
    subst hkB
    go_enter Try.func44, Try.ntmps44
    go_wp2_with (first
      | (go_at_call 62; refine (hrep _).mono ?_; rintro e w1 ⟨rfl, hB1⟩)
      | (go_at_call 66; (with_reducible refine (hp1 _).mono ?_); rintro e w2 ⟨rfl, hB2⟩)
      | (go_at_call 66; (with_reducible refine (hp2 _).mono ?_); rintro e w3 ⟨rfl, hB3⟩)
      | (go_at_call 42; (with_reducible refine (hs1 _).mono ?_); rintro e w4 ⟨rfl, hB4⟩)
      | (go_at_call 42; (with_reducible refine (hs2 _).mono ?_); rintro e w5 ⟨rfl, hB5⟩))
    go_ret
    exact ⟨rfl, trans6 (Below.refl _ _) hB1 hB2 hB3 hB4 hB5⟩
end Go.Proofs.YtnkakkfjfjeaeaaV.Aes
