/- Shared lemmas and walks of the AES laws of this seat. -/
import Derived.Test.YtimokakcdmcnnaaVAes9
import Derived.Test.YtimokakcdmcnnaaVAes8
import Derived.Deep.RegionLaw
import Derived.StillTailTactics
import Derived.Lib.Hide
namespace Go.Proofs.YtimokakcdmcnnaaV.Aes
open Go.RowKit Go.Proofs.YtimokakcdmcnnaaV.PrintWords Go.Proofs.YtimokakcdmcnnaaV.PrintLast Go.Proofs.YtimokakcdmcnnaaV.PrintMore Go.Proofs.YtimokakcdmcnnaaV.Mem
set_option linter.unusedVariables false
set_option linter.unusedSimpArgs false

theorem wrap_sub (L q d : Nat) (h : q + d = L) (hl : L ≤ 200) : IntKind.i64.wrap ((L : Int) - (d : Int)) = (q : Int) ∧ wrap64 ((L : Int) - (d : Int)) = (q : Int) := by
  constructor
  · rw [IntKind.wrap_i64]; omega
  · unfold wrap64; omega
theorem wrap_add (q m : Nat) (h : q ≤ 200) (hl : m ≤ 4) : IntKind.i64.wrap ((q : Int) + (m : Int)) = (q : Int) + (m : Int) ∧ wrap64 ((q : Int) + (m : Int)) = (q : Int) + (m : Int) := by
  constructor
  · rw [IntKind.wrap_i64]; omega
  · unfold wrap64; omega
theorem below_drewN' {B : Nat} {w w' : World} (h : Below B w w') (n : Nat) : Below B w (w'.drewN n) := ⟨h.os, h.tape, h.output, h.size, h.block⟩
theorem below_grown {B r : Nat} {w w' : World} (h : w.grownBy w' (some r)) (hr : B ≤ r) (hs : B ≤ w.heap.size) : Below B w w' :=
  ⟨h.os, h.tape, h.output, h.size, fun k hk => h.block k (by omega) (by simp; omega)⟩
theorem info5 : (Try.prog.info? 5).map (fun i => (i.zero, i.size, i.bytes)) = some (some (.int .u8 0), 1, 1) := by kernel_rfl
theorem run_slice_rest (G o C n l : Nat) (hl : l < n) (hn : n ≤ C) (w : World) :
    (Instr.slice 43 (.slice (some ⟨G, o, none⟩) n C) (some (.int .i64 (l : Int))) none none).run Try.prog w = .ok (.slice (some ⟨G, o + l, none⟩) (n - l) (C - l)) w := by
  have hm : ¬ C = l := by omega
  go_simp
  intro h; omega
/-- A cipher was made: a new block, its box and its keys new too. -/
def CipherPost (w : World) (bx ks : List Int) (e : Ending) (w' : World) : Prop := ∃ g gb gk cap : Nat, e = .returned (.pointer (some ⟨g, 0, none⟩)) ∧ Ci w' g gb gk cap bx ks ∧ w.heap.size ≤ g ∧ w.heap.size ≤ gb ∧ w.heap.size ≤ gk ∧ Below w.heap.size w w'
set_option maxHeartbeats 16000000 in
set_option maxRecDepth 100000 in
theorem cipherOf_walk (S : Nat → Nat) (kk : Nat) (hS : ∀ i : Nat, i < 256 → impl_subByte.f kk (i : Int) = some (S i : Int) ∧ S i < 256) (hbx : Bt (boxAt S 256)) (s : ByteArray) (hs : s.size = 16) (N40 : Nat) (hN40 : N40 ≤ 40 ∧ 40 ≤ N40) (w : World) :
    Calls Try.prog 54 #[.string s] w (CipherPost w (boxAt S 256) (keysAt (boxAt S 256) (bytesOf s) N40).1) := by
  have hcv := conv16 s hs
  have hbl : (bytesOf s).length = 16 := by rw [bytesOf_length]; exact hs
  have hbb := Bt.bytes s
  have hs63 : s.size ≤ maxLen := by rw [hs]; decide
  obtain ⟨b, hb⟩ : ∃ b, b = bytesOf s := ⟨_, rfl⟩
  have hrow := fun (W : World) (B : Nat) (h : B ≤ W.heap.size) => ownsRowM.bytes W B 5 s h hs63
  have hbs : (s.data.toList.map fun b => Value.int .u8 (b.toNat : Int)) = u8v b := by rw [hb]; simp [u8v, bytesOf]
  rw [hbs, hs] at hrow
  have hnext := fun (W : World) => bytes_below (Below.refl W.heap.size W) (Nat.le_refl _) 5 s
  rw [← hb] at hbl hbb ⊢
  clear hb hbs
  obtain ⟨bx, hbxd⟩ : ∃ bx, bx = boxAt S 256 := ⟨_, rfl⟩
  have hnb := newBox_walk S kk hS
  have hbxl := boxAt_length S 256
  rw [← hbxd] at hbx hnb hbxl ⊢
  clear hbxd
  go_enter Try.func54, Try.ntmps54
  go_wp2_with (go_at_call 51; refine (hnb _).mono ?_; rintro e w1 ⟨rfl, hbox, hb1⟩)
  have hb2 := hnext w1
  have hs1 := hb1.size
  have hs2 := hb2.size
  have hbg : w.heap.size < w1.heap.size := hbox.lt
  have hW1 : w1.heap.size < (Lib.bytesWorld w1 5 s).heap.size := (At.bytes w1 5 s).lt
  have hK0 : Kst ((Lib.bytesWorld w1 5 s).alloc (.cells #[.pointer (some ⟨w.heap.size, 0, none⟩), .slice (some ⟨w1.heap.size, 0, none⟩) 16 (grownCap w1 16 0 5)] 56 (0, 0))) w.heap.size (Lib.bytesWorld w1 5 s).heap.size w.heap.size w1.heap.size (grownCap w1 16 0 5) 16 bx b := by
    refine ⟨?_, ?_, ?_, ?_, (hbox.below hb2 hbg).alloc _, ?_, ?_, ?_, by simp, by simp; omega⟩
    · simp only [World.cell?, heap_alloc_new]; rfl
    · simp only [World.cell?, heap_alloc_new]; rfl
    · simp only [World.frozen?, heap_alloc_new]; rfl
    · exact ownsRowM.alloc (hrow w1 w.heap.size hs1) _
    · omega
    · omega
    · omega
  have hB0 : Below w.heap.size w ((Lib.bytesWorld w1 5 s).alloc (.cells #[.pointer (some ⟨w.heap.size, 0, none⟩), .slice (some ⟨w1.heap.size, 0, none⟩) 16 (grownCap w1 16 0 5)] 56 (0, 0))) := (hb1.trans (hb2.mono hs1)).alloc (by omega) _
  obtain ⟨g, hg⟩ : ∃ g, g = (Lib.bytesWorld w1 5 s).heap.size := ⟨_, rfl⟩
  have hgB : w.heap.size ≤ g := by omega
  rw [← hg] at hK0 ⊢
  clear hg hb2 hs2 hW1 hrow hnext hcv hnb hbox
  go_loopw [5, 4] (fun v y wr => ∃ i n L gk cap : Nat, (i ≤ n + 4 ∧ n + 4 ≤ i) ∧ n ≤ 40 ∧ (L ≤ 16 + 4 * n ∧ 16 + 4 * n ≤ L) ∧ v = .int .i64 (i : Int) ∧ y = .int .u8 (keysAt bx b n).2 ∧ Kst wr w.heap.size g w.heap.size gk cap L bx (keysAt bx b n).1 ∧ Below w.heap.size w wr)
    (fun v _ _ => 44 - (intOf v).toNat)
  case atStart => exact ⟨4, 0, 16, _, _, ⟨by omega, by omega⟩, by omega, ⟨by omega, by omega⟩, rfl, rfl, hK0, hB0⟩
  case round =>
    clear hK0 hB0
    obtain ⟨i, n, L, gk, cap, hin, hn, hL, rfl, rfl, hK, hB⟩ := hrel
    have hksb := keysAt_bt bx b hbb n
    have hyr := keysAt_by bx b n
    have hkl := hK.kl
    have hlk := hK.row.frozenAt
    obtain ⟨hcapL, hgkB⟩ : L ≤ cap ∧ w.heap.size ≤ gk := by
      rcases hK.row.2 with ⟨h', _⟩ | ⟨g', cap', cur, h', h2, _, h3, _⟩
      · simp at h'
      · simp only [Value.slice.injEq, Option.some.injEq, Addr.mk.injEq, and_true, true_and] at h'
        omega
    by_cases hi44 : i < 44
    · obtain ⟨p, hp⟩ : ∃ p, p + 4 = L := ⟨L - 4, by omega⟩
      have hp1 : p + 4 ≤ L ∧ L ≤ p + 4 := by omega
      have hw1 : IntKind.i64.wrap (4 * (i : Int)) = (L : Int) := by rw [IntKind.wrap_i64]; omega
      have hw1' : wrap64 (4 * (i : Int)) = (L : Int) := by unfold wrap64; omega
      have hw2 : IntKind.i64.wrap ((L : Int) - 4) = (p : Int) := by rw [IntKind.wrap_i64]; omega
      have hw2' : wrap64 ((L : Int) - 4) = (p : Int) := by unfold wrap64; omega
      have hsl : ∀ wx, (Instr.slice 43 (.slice (some ⟨gk, 0, none⟩) L cap) (some (.int .i64 (p : Int))) none none).run Try.prog wx = .ok (.slice (some ⟨gk, p, none⟩) 4 (cap - p)) wx := fun wx => (by have h := run_slice_rest gk 0 cap L p (by omega) (by omega) wx; rw [Nat.zero_add, show L - p = 4 by omega] at h; exact h)
      have hat : ∀ wx, (Instr.arrayAt 46 (.slice (some ⟨gk, p, none⟩) 4 (cap - p))).run Try.prog wx = .ok (.pointer (some ⟨gk, p, none⟩)) wx := fun wx => run_arrayAt wx 46 _ 4 _ 4 (cap - p) Try.underlying46 (by decide)
      clear hp hlk
      have c1 := hK.c1
      have e0 := hK.key p (by omega)
      have e1 := hK.key (p + 1) (by omega)
      have e2 := hK.key (p + 2) (by omega)
      have e3 := hK.key (p + 3) (by omega)
      obtain ⟨ks, hks⟩ : ∃ ks, ks = (keysAt bx b n).1 := ⟨_, rfl⟩
      obtain ⟨y, hy⟩ : ∃ y, y = (keysAt bx b n).2 := ⟨_, rfl⟩
      rw [← hks] at hK hksb hkl e0 e1 e2 e3
      rw [← hy] at hyr ⊢
      obtain ⟨x0, hx0⟩ := Int.eq_ofNat_of_zero_le (hksb.rd p).1
      obtain ⟨x1, hx1⟩ := Int.eq_ofNat_of_zero_le (hksb.rd (p + 1)).1
      obtain ⟨x2, hx2⟩ := Int.eq_ofNat_of_zero_le (hksb.rd (p + 2)).1
      obtain ⟨x3, hx3⟩ := Int.eq_ofNat_of_zero_le (hksb.rd (p + 3)).1
      have r0 : x0 < 256 := by have := (hksb.rd p).2; omega
      have r1 : x1 < 256 := by have := (hksb.rd (p + 1)).2; omega
      have r2 : x2 < 256 := by have := (hksb.rd (p + 2)).2; omega
      have r3 : x3 < 256 := by have := (hksb.rd (p + 3)).2; omega
      rw [hx0] at e0
      rw [hx1] at e1
      rw [hx2] at e2
      rw [hx3] at e3
      have Hx := Lib.hid (And.intro hx0 (And.intro hx1 (And.intro hx2 hx3)))
      have Hks := Lib.hid hks
      have Hy := Lib.hid hy
      have Hkl := Lib.hid hkl
      clear hx0 hx1 hx2 hx3 hks hy hkl
      have hK1 := hK.alloc (.cells (u8s [(x0 : Int), (x1 : Int), (x2 : Int), (x3 : Int)]) 46 (0, 0))
      have hA1 := At.made wr 46 [(x0 : Int), (x1 : Int), (x2 : Int), (x3 : Int)]
      have hB1 := hB.alloc hB.size (.cells (u8s [(x0 : Int), (x1 : Int), (x2 : Int), (x3 : Int)]) 46 (0, 0))
      have nw1 : g ≠ wr.heap.size := by have := hK.lt; omega
      have nw2 : w.heap.size ≠ wr.heap.size := by have := hK.box.lt; omega
      have nw3 : gk ≠ wr.heap.size := by have := hK.ltk; omega
      have hBw : w.heap.size ≤ wr.heap.size := hB.size
      clear hB
      by_cases h4 : i % 4 = 0
      · have h4i : (i : Int) % 4 = 0 := by omega
        go_wp2_with (first | simp only [hsl] | simp only [hat])
        obtain ⟨W, hW⟩ : ∃ W, W = wr.alloc (.cells (u8s [(x0 : Int), (x1 : Int), (x2 : Int), (x3 : Int)]) 46 (0, 0)) := ⟨_, rfl⟩
        rw [show wr.alloc (.cells #[.int .u8 (x0 : Int), .int .u8 (x1 : Int), .int .u8 (x2 : Int), .int .u8 (x3 : Int)] 46 (0, 0)) = W from hW.symm]
        rw [← hW] at hK1 hA1 hB1
        clear hW
        have k0 := hK1.c0
        have a0 : W.cell? ⟨wr.heap.size, 0, none⟩ = some (.int .u8 (x0 : Int)) := hA1.cell (i := 0) (show 0 < 4 by decide)
        have a1 : W.cell? ⟨wr.heap.size, 1, none⟩ = some (.int .u8 (x1 : Int)) := hA1.cell (i := 1) (show 1 < 4 by decide)
        have a2 : W.cell? ⟨wr.heap.size, 2, none⟩ = some (.int .u8 (x2 : Int)) := hA1.cell (i := 2) (show 2 < 4 by decide)
        have a3 : W.cell? ⟨wr.heap.size, 3, none⟩ = some (.int .u8 (x3 : Int)) := hA1.cell (i := 3) (show 3 < 4 by decide)
        have b0 : W.cell? ⟨w.heap.size, x0, none⟩ = some (.int .u8 (rd bx (x0 : Int))) := hK1.box.cell (by omega)
        have b1 : W.cell? ⟨w.heap.size, x1, none⟩ = some (.int .u8 (rd bx (x1 : Int))) := hK1.box.cell (by omega)
        have b2 : W.cell? ⟨w.heap.size, x2, none⟩ = some (.int .u8 (rd bx (x2 : Int))) := hK1.box.cell (by omega)
        have b3 : W.cell? ⟨w.heap.size, x3, none⟩ = some (.int .u8 (rd bx (x3 : Int))) := hK1.box.cell (by omega)
        clear c1 e0 e1 e2 e3
        have q0 : (x0 : Int) < 256 := by omega
        have q1 : (x1 : Int) < 256 := by omega
        have q2 : (x2 : Int) < 256 := by omega
        have q3 : (x3 : Int) < 256 := by omega
        have f0 : W.frozen? ⟨wr.heap.size, 0, none⟩ = false := hA1.frozen (show 0 < 4 by decide)
        have f1 : W.frozen? ⟨wr.heap.size, 1, none⟩ = false := hA1.frozen (show 1 < 4 by decide)
        have f2 : W.frozen? ⟨wr.heap.size, 2, none⟩ = false := hA1.frozen (show 2 < 4 by decide)
        have f3 : W.frozen? ⟨wr.heap.size, 3, none⟩ = false := hA1.frozen (show 3 < 4 by decide)
        have hMk := M_tells y 2 (by decide) (by decide)
        go_still_tail 43, (by kernel_rfl)
        change wpList _ _ _ _ _ W.drew
        go_wp2_with (go_at_call 84; refine (impl_mulGf.calls 16 _ _ _ _ hMk).mono ?_; rintro e w' ⟨rfl, ⟨nd, rfl⟩⟩)
        obtain ⟨f, hf⟩ : ∃ f : List Int, f = [Go.bits .xor .u8 (rd bx (x1 : Int)) y, rd bx (x2 : Int), rd bx (x3 : Int), rd bx (x0 : Int)] := ⟨_, rfl⟩
        have hix : ∀ (m : Nat) (hm : m < 4) (wx : World), Sem.run Try.prog (Instr.index 46 (.agg #[.int .u8 (Go.bits .xor .u8 (rd bx (x1 : Int)) y), .int .u8 (rd bx (x2 : Int)), .int .u8 (rd bx (x3 : Int)), .int .u8 (rd bx (x0 : Int))]) (.int .i64 (m : Int))) wx = .ok (.int .u8 (rd f (m : Int))) wx := fun m hm wx => by rw [hf]; exact hix_46 [Go.bits .xor .u8 (rd bx (x1 : Int)) y, rd bx (x2 : Int), rd bx (x3 : Int), rd bx (x0 : Int)] m hm wx
        have hnext : (keysAt bx b (n + 1)).1 = ks ++ tab 4 (fun k => Go.bits .xor .u8 (rd ks ((4 * n + k : Nat) : Int)) (rd f (k : Int))) ∧ (keysAt bx b (n + 1)).2 = M y 2 := by
          obtain ⟨hx0, hx1, hx2, hx3⟩ := Hx.out
          have d0 : p = 16 + 4 * n - 4 := by omega
          have d1 : p + 1 = 16 + 4 * n - 3 := by omega
          have d2 : p + 2 = 16 + 4 * n - 2 := by omega
          have d3 : p + 3 = 16 + 4 * n - 1 := by omega
          rw [d0] at hx0
          rw [d1] at hx1
          rw [d2] at hx2
          rw [d3] at hx3
          simp only [keysAt]
          rw [← Hks.out, ← Hy.out, if_pos (show (n + 4) % 4 = 0 by omega), if_pos (show (n + 4) % 4 = 0 by omega), hx0, hx1, hx2, hx3, hf]
          exact ⟨rfl, rfl⟩
        clear hf hw1' hw2 hw2' hsl hat
        obtain ⟨W4, hW4⟩ : ∃ W4, W4 = (((((W.setCell ⟨wr.heap.size, 0, none⟩ (.int .u8 (Go.bits .xor .u8 (rd bx (x1 : Int)) y))).setCell ⟨wr.heap.size, 1, none⟩ (.int .u8 (rd bx (x2 : Int)))).setCell ⟨wr.heap.size, 2, none⟩ (.int .u8 (rd bx (x3 : Int)))).setCell ⟨wr.heap.size, 3, none⟩ (.int .u8 (rd bx (x0 : Int)))).drewN (1 + nd)) := ⟨_, rfl⟩
        rw [← hW4]
        have hK4 : Kst W4 w.heap.size g w.heap.size gk cap L bx ks := by rw [hW4]; exact ((((hK1.other _ _ nw1 nw2 nw3).other _ _ nw1 nw2 nw3).other _ _ nw1 nw2 nw3).other _ _ nw1 nw2 nw3).drew _
        have hB4 : Below w.heap.size w W4 := by rw [hW4]; exact below_drewN' ((((hB1.setCell hBw _).setCell hBw _).setCell hBw _).setCell hBw _) _
        clear hW4 hK1 hB1 hA1 k0 a0 a1 a2 a3 b0 b1 b2 b3 f0 f1 f2 f3 hMk
        have hLx : ks.length = L := Hkl.out
        obtain ⟨F, hF⟩ : ∃ F : Nat → Int, F = fun k => Go.bits .xor .u8 (rd ks ((4 * n + k : Nat) : Int)) (rd f (k : Int)) := ⟨_, rfl⟩
        rw [← hF] at hnext
        have hLh := Lib.hid hLx
        have hFh := Lib.hid hF
        have hnexth := Lib.hid hnext
        clear hLx hF hnext
        go_loopw [77] (fun v wx => ∃ m gk2 cap2 L2 : Nat, m ≤ 4 ∧ (L2 ≤ L + m ∧ L + m ≤ L2) ∧ v = .int .i64 (m : Int) ∧ Kst wx w.heap.size g w.heap.size gk2 cap2 L2 bx (ks ++ (tab 4 F).take m) ∧ Below w.heap.size w wx)
          (fun v _ => 4 - (intOf v).toNat)
        case atStart => exact ⟨0, gk, cap, L, by omega, ⟨by omega, by omega⟩, rfl, by rw [List.take_zero, List.append_nil]; exact hK4, hB4⟩
        case round =>
          clear hK4 hB4
          rename_i wx0
          obtain ⟨m, gk2, cap2, L2, hm, hL2, rfl, hKm, hBm⟩ := hrel
          have hgk2B : w.heap.size ≤ gk2 := by
            rcases hKm.row.2 with ⟨h', _⟩ | ⟨g', cap', cur, h', h2, _, h3, _⟩
            · simp at h'
            · simp only [Value.slice.injEq, Option.some.injEq, Addr.mk.injEq, and_true, true_and] at h'
              omega
          by_cases hm4 : m < 4
          · obtain ⟨q, hq⟩ : ∃ q, q + 16 = L := ⟨L - 16, by omega⟩
            have hq1 : q ≤ 4 * n ∧ 4 * n ≤ q := by omega
            have hL2a : q + m < L2 := by omega
            have hL2b : L2 ≤ 200 := by omega
            have hL2c : L ≤ 200 := by omega
            have hq200 : q ≤ 200 := by omega
            have hn0 : 0 ≤ (q : Int) + (m : Int) := by omega
            have hn1 : (q : Int) + (m : Int) < (L2 : Int) := by omega
            have hn2 : ((q : Int) + (m : Int)).toNat = q + m := by omega
            obtain ⟨r, hr⟩ : ∃ r, r = 4 * n + m := ⟨_, rfl⟩
            have hqm : q + m = r := by omega
            have hL1 : L2 + 1 ≤ L + (m + 1) ∧ L + (m + 1) ≤ L2 + 1 := by omega
            have hm5 : m + 1 ≤ 4 := by omega
            have hlim : L2 + 1 ≤ maxLen := by simp only [maxLen]; omega
            have hlimb : (L2 + 1) * 1 ≤ 140737488355328 := by omega
            have hmeas : 4 - (m + 1) < 4 - m := by omega
            have ce : wr.cell? ⟨gk2, q + m, none⟩ = some (.int .u8 (rd ks (r : Int))) := by
              rw [hKm.key (q + m) hL2a, hqm]
              have hl2 := hLh.out
              have hlt : r < ks.length := by omega
              rw [rd_at _ _ (by rw [List.length_append]; omega), rd_at _ _ hlt, List.getElem_append_left hlt]
            have hXF : F m = Go.bits .xor .u8 (rd ks (r : Int)) (rd f (m : Int)) := by rw [hFh.out, hr]
            have hcat : ks ++ (tab 4 F).take (m + 1) = ks ++ (tab 4 F).take m ++ [Go.bits .xor .u8 (rd ks (r : Int)) (rd f (m : Int))] := by
              rw [List.take_succ_eq_append_getElem (by rw [tab_length]; exact hm4), ← List.append_assoc, ← hXF]
              simp [tab]
            have hw3 : IntKind.i64.wrap ((L : Int) - 16) = (q : Int) := (wrap_sub L q 16 hq hL2c).1
            have hw4 := wrap_add q m hq200 hm
            have cc := hKm.c1
            have hixm := hix m hm4
            have rowW := fun o => ownsRowM.alloc (ownsRowM.drew hKm.row) o
            have hu8 : u8v (ks ++ (tab 4 F).take m ++ [Go.bits .xor .u8 (rd ks (r : Int)) (rd f (m : Int))]) = u8v (ks ++ (tab 4 F).take m) ++ [.int .u8 (Go.bits .xor .u8 (rd ks (r : Int)) (rd f (m : Int)))] := by simp [u8v]
            have hcath := Lib.hid hcat
            have hlimh := Lib.hid (And.intro hlim hlimb)
            have hmeash := Lib.hid hmeas
            clear hlim hlimb hmeas
            have hu8h := Lib.hid hu8
            replace hw4 := hw4.1
            clear hq hix hXF hcat hu8 hqm hr
            go_wp2
            obtain ⟨i5, hi5, hz5, hsz5, hby5⟩ : ∃ i5, Try.prog.info? 5 = some i5 ∧ i5.zero = some (.int .u8 0) ∧ i5.size = 1 ∧ i5.bytes = 1 := by
              have h := info5
              cases hq : Try.prog.info? 5 with
              | none => rw [hq] at h; simp at h
              | some i5 => rw [hq] at h; simp at h; exact ⟨i5, rfl, h.1, h.2.1, h.2.2⟩
            have Hi5 := Lib.hid (And.intro hi5 (And.intro hz5 (And.intro hsz5 hby5)))
            clear hi5 hz5 hsz5 hby5
            have hlw : w.heap.size ≤ wr.heap.size := hBm.size
            have hglt : g < wr.heap.size := hKm.lt
            have hgklt : gk2 < wr.heap.size := hKm.ltk
            have hgne : ¬ g = wr.heap.size := by omega
            have hgkne : ¬ gk2 = wr.heap.size := by omega
            go_region_law (
              refine step_append_M rfl (.tmp 85) (.tmp 99) 43 rfl w.heap.size 5 i5 (.int .u8 0) 1 1 Try.underlying43 Hi5.out.1 Hi5.out.2.1 Hi5.out.2.2.1 Hi5.out.2.2.2 rfl (by decide) (.slice (some ⟨gk2, 0, none⟩) L2 cap2) L2 (u8v (ks ++ (tab 4 F).take m)) (by simp [Act.eval, Act.put]) (rowW _) ⟨wr.heap.size, 0, none⟩ 1 1 [.int .u8 (Go.bits .xor .u8 (rd ks (r : Int)) (rd f (m : Int)))] (by simp [Act.eval, Act.put]) rfl (World.news_of_block (heap_alloc_new _ _)) (by simp [Value.oneCell']) (by decide) hlimh.out.1 hlimh.out.2 (by simp; omega) ?_
              intro g2 cap3 w5 hr5 hg5 ho5 hl5
              have hst5 : Kst (wr.alloc (.cells #[.int .u8 (Go.bits .xor .u8 (rd ks (r : Int)) (rd f (m : Int)))] 5 (0, 0))) w.heap.size g w.heap.size gk2 cap2 L2 bx (ks ++ (tab 4 F).take m) := hKm.alloc _
              have hh5 : w5.heap[g]? = (wr.alloc (.cells #[.int .u8 (Go.bits .xor .u8 (rd ks (r : Int)) (rd f (m : Int)))] 5 (0, 0))).heap[g]? := hg5.block g hst5.lt (by simp [Value.ownBlock]; exact fun e => hst5.ng e.symm)
              have fz5 : w5.frozen? ⟨g, 1, none⟩ = false := by simp only [World.frozen?, hh5]; exact hst5.fz
              have cc5 : w5.cell? ⟨g, 1, none⟩ = some (.slice (some ⟨gk2, 0, none⟩) L2 cap2) := by simp only [World.cell?, hh5]; exact hst5.c1
              have hK5 : Kst (w5.setCell ⟨g, 1, none⟩ (.slice (some ⟨g2, 0, none⟩) (L2 + 1) cap3)) w.heap.size g w.heap.size g2 cap3 (L2 + 1) bx (ks ++ (tab 4 F).take (m + 1)) := by
                rw [hcath.out]
                exact (hst5.drew 1).grow _ g2 cap3 (by rw [hu8h.out]; exact hr5) hg5 (by simpa [Value.ownBlock] using ho5) hl5
              have hB5 : Below w.heap.size w (w5.setCell ⟨g, 1, none⟩ (.slice (some ⟨g2, 0, none⟩) (L2 + 1) cap3)) :=
                ((below_drewN' (hBm.alloc hlw (.cells #[.int .u8 (Go.bits .xor .u8 (rd ks (r : Int)) (rd f (m : Int)))] 5 (0, 0))) 1).trans (below_grown hg5 hgk2B (by simp; omega))).setCell hgB _
              clear hst5 hh5 hr5 hg5 ho5 hl5)
            all_goals (
              clear cc ce hw1 hw3 hw4 hixm rowW
              go_wp2
              go_roundw
              case rel => exact ⟨m + 1, g2, cap3, L2 + 1, hm5, hL1, by go_num, hK5, hB5⟩
              case measure => simp [intOf]; omega)
          · have hm4e : m = 4 := by omega
            subst hm4e
            have ht4 : (tab 4 F).take 4 = tab 4 F := List.take_of_length_le (by rw [tab_length]; exact Nat.le_refl _)
            rw [ht4, ← hnexth.out.1] at hKm
            have hi1 : i + 1 ≤ n + 1 + 4 ∧ n + 1 + 4 ≤ i + 1 := by omega
            have hn1 : n + 1 ≤ 40 := by omega
            have hL3 : L2 ≤ 16 + 4 * (n + 1) ∧ 16 + 4 * (n + 1) ≤ L2 := by omega
            clear ht4 hw1
            go_wp2
            go_roundw
            case rel => exact ⟨i + 1, n + 1, L2, gk2, cap2, hi1, hn1, hL3, by go_num, by rw [hnexth.out.2], hKm, hBm⟩
            case measure => simp [intOf]; omega
      · have h4i : ¬ (i : Int) % 4 = 0 := by omega
        have hd1 : decide ((i : Int) < 44) = true := decide_eq_true (by omega)
        have hd2 : ((i : Int) % 4 == 0) = false := by simpa using h4i
        go_wp2_with (first | simp only [hsl] | simp only [hat])
        try rw [hd1]
        try rw [hd2]
        clear hd1 hd2
        obtain ⟨f, hf⟩ : ∃ f : List Int, f = [(x0 : Int), (x1 : Int), (x2 : Int), (x3 : Int)] := ⟨_, rfl⟩
        have hix : ∀ (m : Nat) (hm : m < 4) (wx : World), Sem.run Try.prog (Instr.index 46 (.agg #[.int .u8 (x0 : Int), .int .u8 (x1 : Int), .int .u8 (x2 : Int), .int .u8 (x3 : Int)]) (.int .i64 (m : Int))) wx = .ok (.int .u8 (rd f (m : Int))) wx := fun m hm wx => by rw [hf]; exact hix_46 [(x0 : Int), (x1 : Int), (x2 : Int), (x3 : Int)] m hm wx
        have hnext : (keysAt bx b (n + 1)).1 = ks ++ tab 4 (fun k => Go.bits .xor .u8 (rd ks ((4 * n + k : Nat) : Int)) (rd f (k : Int))) ∧ (keysAt bx b (n + 1)).2 = y := by
          obtain ⟨hx0, hx1, hx2, hx3⟩ := Hx.out
          have d0 : p = 16 + 4 * n - 4 := by omega
          have d1 : p + 1 = 16 + 4 * n - 3 := by omega
          have d2 : p + 2 = 16 + 4 * n - 2 := by omega
          have d3 : p + 3 = 16 + 4 * n - 1 := by omega
          rw [d0] at hx0
          rw [d1] at hx1
          rw [d2] at hx2
          rw [d3] at hx3
          simp only [keysAt]
          rw [← Hks.out, ← Hy.out, if_neg (show ¬ (n + 4) % 4 = 0 by omega), if_neg (show ¬ (n + 4) % 4 = 0 by omega), hx0, hx1, hx2, hx3, hf]
          exact ⟨rfl, rfl⟩
        clear hf hw1' hw2 hw2' hsl hat
        obtain ⟨W4, hW4⟩ : ∃ W4, W4 = wr.alloc (.cells (u8s [(x0 : Int), (x1 : Int), (x2 : Int), (x3 : Int)]) 46 (0, 0)) := ⟨_, rfl⟩
        rw [show wr.alloc (.cells #[.int .u8 (x0 : Int), .int .u8 (x1 : Int), .int .u8 (x2 : Int), .int .u8 (x3 : Int)] 46 (0, 0)) = W4 from hW4.symm]
        have hK4 : Kst W4 w.heap.size g w.heap.size gk cap L bx ks := by rw [hW4]; exact hK1
        have hB4 : Below w.heap.size w W4 := by rw [hW4]; exact hB1
        clear hW4 hK1 hB1 hA1 c1 e0 e1 e2 e3
        have hLx : ks.length = L := Hkl.out
        obtain ⟨F, hF⟩ : ∃ F : Nat → Int, F = fun k => Go.bits .xor .u8 (rd ks ((4 * n + k : Nat) : Int)) (rd f (k : Int)) := ⟨_, rfl⟩
        rw [← hF] at hnext
        have hLh := Lib.hid hLx
        have hFh := Lib.hid hF
        have hnexth := Lib.hid hnext
        clear hLx hF hnext
        go_loopw [77] (fun v wx => ∃ m gk2 cap2 L2 : Nat, m ≤ 4 ∧ (L2 ≤ L + m ∧ L + m ≤ L2) ∧ v = .int .i64 (m : Int) ∧ Kst wx w.heap.size g w.heap.size gk2 cap2 L2 bx (ks ++ (tab 4 F).take m) ∧ Below w.heap.size w wx)
          (fun v _ => 4 - (intOf v).toNat)
        case atStart => exact ⟨0, gk, cap, L, by omega, ⟨by omega, by omega⟩, rfl, by rw [List.take_zero, List.append_nil]; exact hK4, hB4⟩
        case round =>
          clear hK4 hB4
          rename_i wx0
          obtain ⟨m, gk2, cap2, L2, hm, hL2, rfl, hKm, hBm⟩ := hrel
          have hgk2B : w.heap.size ≤ gk2 := by
            rcases hKm.row.2 with ⟨h', _⟩ | ⟨g', cap', cur, h', h2, _, h3, _⟩
            · simp at h'
            · simp only [Value.slice.injEq, Option.some.injEq, Addr.mk.injEq, and_true, true_and] at h'
              omega
          by_cases hm4 : m < 4
          · obtain ⟨q, hq⟩ : ∃ q, q + 16 = L := ⟨L - 16, by omega⟩
            have hq1 : q ≤ 4 * n ∧ 4 * n ≤ q := by omega
            have hL2a : q + m < L2 := by omega
            have hL2b : L2 ≤ 200 := by omega
            have hL2c : L ≤ 200 := by omega
            have hq200 : q ≤ 200 := by omega
            have hn0 : 0 ≤ (q : Int) + (m : Int) := by omega
            have hn1 : (q : Int) + (m : Int) < (L2 : Int) := by omega
            have hn2 : ((q : Int) + (m : Int)).toNat = q + m := by omega
            obtain ⟨r, hr⟩ : ∃ r, r = 4 * n + m := ⟨_, rfl⟩
            have hqm : q + m = r := by omega
            have hL1 : L2 + 1 ≤ L + (m + 1) ∧ L + (m + 1) ≤ L2 + 1 := by omega
            have hm5 : m + 1 ≤ 4 := by omega
            have hlim : L2 + 1 ≤ maxLen := by simp only [maxLen]; omega
            have hlimb : (L2 + 1) * 1 ≤ 140737488355328 := by omega
            have hmeas : 4 - (m + 1) < 4 - m := by omega
            have ce : wr.cell? ⟨gk2, q + m, none⟩ = some (.int .u8 (rd ks (r : Int))) := by
              rw [hKm.key (q + m) hL2a, hqm]
              have hl2 := hLh.out
              have hlt : r < ks.length := by omega
              rw [rd_at _ _ (by rw [List.length_append]; omega), rd_at _ _ hlt, List.getElem_append_left hlt]
            have hXF : F m = Go.bits .xor .u8 (rd ks (r : Int)) (rd f (m : Int)) := by rw [hFh.out, hr]
            have hcat : ks ++ (tab 4 F).take (m + 1) = ks ++ (tab 4 F).take m ++ [Go.bits .xor .u8 (rd ks (r : Int)) (rd f (m : Int))] := by
              rw [List.take_succ_eq_append_getElem (by rw [tab_length]; exact hm4), ← List.append_assoc, ← hXF]
              simp [tab]
            have hw3 : IntKind.i64.wrap ((L : Int) - 16) = (q : Int) := (wrap_sub L q 16 hq hL2c).1
            have hw4 := wrap_add q m hq200 hm
            have cc := hKm.c1
            have hixm := hix m hm4
            have rowW := fun o => ownsRowM.alloc (ownsRowM.drew hKm.row) o
            have hu8 : u8v (ks ++ (tab 4 F).take m ++ [Go.bits .xor .u8 (rd ks (r : Int)) (rd f (m : Int))]) = u8v (ks ++ (tab 4 F).take m) ++ [.int .u8 (Go.bits .xor .u8 (rd ks (r : Int)) (rd f (m : Int)))] := by simp [u8v]
            have hcath := Lib.hid hcat
            have hlimh := Lib.hid (And.intro hlim hlimb)
            have hmeash := Lib.hid hmeas
            clear hlim hlimb hmeas
            have hu8h := Lib.hid hu8
            replace hw4 := hw4.1
            clear hq hix hXF hcat hu8 hqm hr
            go_wp2
            obtain ⟨i5, hi5, hz5, hsz5, hby5⟩ : ∃ i5, Try.prog.info? 5 = some i5 ∧ i5.zero = some (.int .u8 0) ∧ i5.size = 1 ∧ i5.bytes = 1 := by
              have h := info5
              cases hq : Try.prog.info? 5 with
              | none => rw [hq] at h; simp at h
              | some i5 => rw [hq] at h; simp at h; exact ⟨i5, rfl, h.1, h.2.1, h.2.2⟩
            have Hi5 := Lib.hid (And.intro hi5 (And.intro hz5 (And.intro hsz5 hby5)))
            clear hi5 hz5 hsz5 hby5
            have hlw : w.heap.size ≤ wr.heap.size := hBm.size
            have hglt : g < wr.heap.size := hKm.lt
            have hgklt : gk2 < wr.heap.size := hKm.ltk
            have hgne : ¬ g = wr.heap.size := by omega
            have hgkne : ¬ gk2 = wr.heap.size := by omega
            go_region_law (
              refine step_append_M rfl (.tmp 85) (.tmp 99) 43 rfl w.heap.size 5 i5 (.int .u8 0) 1 1 Try.underlying43 Hi5.out.1 Hi5.out.2.1 Hi5.out.2.2.1 Hi5.out.2.2.2 rfl (by decide) (.slice (some ⟨gk2, 0, none⟩) L2 cap2) L2 (u8v (ks ++ (tab 4 F).take m)) (by simp [Act.eval, Act.put]) (rowW _) ⟨wr.heap.size, 0, none⟩ 1 1 [.int .u8 (Go.bits .xor .u8 (rd ks (r : Int)) (rd f (m : Int)))] (by simp [Act.eval, Act.put]) rfl (World.news_of_block (heap_alloc_new _ _)) (by simp [Value.oneCell']) (by decide) hlimh.out.1 hlimh.out.2 (by simp; omega) ?_
              intro g2 cap3 w5 hr5 hg5 ho5 hl5
              have hst5 : Kst (wr.alloc (.cells #[.int .u8 (Go.bits .xor .u8 (rd ks (r : Int)) (rd f (m : Int)))] 5 (0, 0))) w.heap.size g w.heap.size gk2 cap2 L2 bx (ks ++ (tab 4 F).take m) := hKm.alloc _
              have hh5 : w5.heap[g]? = (wr.alloc (.cells #[.int .u8 (Go.bits .xor .u8 (rd ks (r : Int)) (rd f (m : Int)))] 5 (0, 0))).heap[g]? := hg5.block g hst5.lt (by simp [Value.ownBlock]; exact fun e => hst5.ng e.symm)
              have fz5 : w5.frozen? ⟨g, 1, none⟩ = false := by simp only [World.frozen?, hh5]; exact hst5.fz
              have cc5 : w5.cell? ⟨g, 1, none⟩ = some (.slice (some ⟨gk2, 0, none⟩) L2 cap2) := by simp only [World.cell?, hh5]; exact hst5.c1
              have hK5 : Kst (w5.setCell ⟨g, 1, none⟩ (.slice (some ⟨g2, 0, none⟩) (L2 + 1) cap3)) w.heap.size g w.heap.size g2 cap3 (L2 + 1) bx (ks ++ (tab 4 F).take (m + 1)) := by
                rw [hcath.out]
                exact (hst5.drew 1).grow _ g2 cap3 (by rw [hu8h.out]; exact hr5) hg5 (by simpa [Value.ownBlock] using ho5) hl5
              have hB5 : Below w.heap.size w (w5.setCell ⟨g, 1, none⟩ (.slice (some ⟨g2, 0, none⟩) (L2 + 1) cap3)) :=
                ((below_drewN' (hBm.alloc hlw (.cells #[.int .u8 (Go.bits .xor .u8 (rd ks (r : Int)) (rd f (m : Int)))] 5 (0, 0))) 1).trans (below_grown hg5 hgk2B (by simp; omega))).setCell hgB _
              clear hst5 hh5 hr5 hg5 ho5 hl5)
            all_goals (
              clear cc ce hw1 hw3 hw4 hixm rowW
              go_wp2
              go_roundw
              case rel => exact ⟨m + 1, g2, cap3, L2 + 1, hm5, hL1, by go_num, hK5, hB5⟩
              case measure => simp [intOf]; omega)
          · have hm4e : m = 4 := by omega
            subst hm4e
            have ht4 : (tab 4 F).take 4 = tab 4 F := List.take_of_length_le (by rw [tab_length]; exact Nat.le_refl _)
            rw [ht4, ← hnexth.out.1] at hKm
            have hi1 : i + 1 ≤ n + 1 + 4 ∧ n + 1 + 4 ≤ i + 1 := by omega
            have hn1 : n + 1 ≤ 40 := by omega
            have hL3 : L2 ≤ 16 + 4 * (n + 1) ∧ 16 + 4 * (n + 1) ≤ L2 := by omega
            clear ht4 hw1
            go_wp2
            go_roundw
            case rel => exact ⟨i + 1, n + 1, L2, gk2, cap2, hi1, hn1, hL3, by go_num, by rw [hnexth.out.2], hKm, hBm⟩
            case measure => simp [intOf]; omega
    · have hn40 : n = N40 := by omega
      subst hn40
      have hL176 : L = 176 := by omega
      subst hL176
      go_wp2
      go_ret
      exact ⟨g, w.heap.size, gk, cap, rfl, ⟨hK.c0, hK.c1, hK.box, hK.key, hK.ltk, hK.lt⟩, hgB, Nat.le_refl _, hgkB, hB⟩
end Go.Proofs.YtimokakcdmcnnaaV.Aes
