/- Marks laid into the rows of a table of the call's own. Conditions: those that each theorem names. -/
import Derived.Test.YtnghcnkffbjddaaDoorVTab6
import Derived.Test.YtnghcnkffbjddaaDoorPImplMx3
import Derived.Lib.Hide
namespace Go.Proofs.YtnghcnkffbjddaaDoorV.Aes
open Go.RowKit Go.Proofs.YtnghcnkffbjddaaDoorV.PrintWords Go.Proofs.YtnghcnkffbjddaaDoorV.PrintLast Go.Proofs.YtnghcnkffbjddaaDoorV.PrintMore Go.Proofs.YtnghcnkffbjddaaDoorV.Mem
set_option linter.unusedVariables false
set_option linter.unusedSimpArgs false

open Go.Maps Go.WideShapes Go.Proofs.YtnghcnkffbjddaaDoor.PImplM
section
variable {α : Type} {d : Kd α} {e g n cap : Nat} {base : Nat} {ok oki : Nat → Prop} {W : World} {xs : List α} {i : Int} {c : List Value}
theorem el_put (h : Kd.H d e W base ok (.slice (some ⟨g, 0, none⟩) n cap) xs i oki c) (h0 : 0 ≤ i) (h1 : i < n) (j : Nat) (hj : j < d.sz) (hc : c.length = d.sz) (u : Value) (hu : u.oneCell' = true) :
    Kd.H d e (W.setCell ⟨g, i.toNat * d.sz + j, none⟩ u) base ok (.slice (some ⟨g, 0, none⟩) n cap) xs i oki (c.set j u) ∧ W.grownBy (W.setCell ⟨g, i.toNat * d.sz + j, none⟩ u) (some g) := by
  have q := Kd.H_seg h h0 h1 (seg := [u]) (j := j) (by show j + 1 ≤ d.sz; omega) (by intro q hq; rw [List.mem_singleton.mp hq]; exact hu)
  have e : c.take j ++ [u] ++ c.drop (j + [u].length) = c.set j u := by
    rw [List.set_eq_take_append_cons_drop, if_pos (by omega)]; simp
  rw [e] at q
  exact q
theorem el_cell (h : Kd.H d e W base ok (.slice (some ⟨g, 0, none⟩) n cap) xs i oki c) (h0 : 0 ≤ i) (h1 : i < n) (j : Nat) (hj : j < d.sz) (u : Value) (hc : c[j]? = some u) :
    W.cell? ⟨g, i.toNat * d.sz + j, none⟩ = some u ∧ W.frozen? ⟨g, i.toNat * d.sz + j, none⟩ = false := by
  obtain ⟨rows, hl, hraw, _, _, hcc, _⟩ := Kd.H_raw h h0 h1
  obtain ⟨_, _, _, _, hf⟩ := Kd.R_elem hraw [] i h0 h1
  exact ⟨hcc j u hc, hf j hj⟩
end
def mkP (mt : Int → ByteArray) (k : Int) (n : Nat) : List S71 := (List.range n).map fun i : Nat => ⟨mt (k + 2 * (i : Int)), mt (k + 2 * (i : Int) + 1)⟩
theorem mkP_len (mt : Int → ByteArray) (k : Int) (n : Nat) : (mkP mt k n).length = n := by simp [mkP]
theorem mkP_at (mt : Int → ByteArray) (k : Int) (n i : Nat) (h : i < (mkP mt k n).length) : (mkP mt k n)[i] = ⟨mt (k + 2 * (i : Int)), mt (k + 2 * (i : Int) + 1)⟩ := by simp [mkP]
def MarkT (mt : Int → ByteArray) : Prop := ∀ x, 1 ≤ x → x ≤ 1000000000000000 → laws_markText.f 40 x = some (mt x)
theorem take_set_next {β : Type} (l m : List β) (i : Nat) (x : β) (hi : i < l.length) (hl : l.length = m.length) (h : l.take i = m.take i) (hx : m[i]? = some x) : (l.set i x).take (i + 1) = m.take (i + 1) := by
  have hm : i < m.length := by omega
  rw [List.take_succ_eq_append_getElem (by rw [List.length_set]; exact hi), List.take_succ_eq_append_getElem hm, List.take_set, List.set_eq_of_length_le (by rw [List.length_take]; omega), h, List.getElem_set_self]
  rw [List.getElem?_eq_getElem hm] at hx
  rw [Option.some.inj hx]
theorem S_of_A {e : Nat} {w : World} {base : Nat} {ok : Nat → Prop} {v : Value} {l : List S71} (h : k71.R e w base ok v l) : Kd.S k71 e w base ok v l := by
  have q := R_map (d := k71) (d' := Kd.bare k71) (fun x => x) rfl (fun ok2 x cs hx => by rw [k71_openM hx]; exact k71_mkM w base (fun _ => False) x) h
  rw [List.map_id'] at q
  exact Kd.S_bare q
set_option maxHeartbeats 8000000 in
set_option maxRecDepth 100000 in
theorem markA_walk (mt : Int → ByteArray) (hmt : MarkT mt) (v : Value) (l : List S71) (k : Int) (base : Nat) (ok : Nat → Prop) (w : World) (hS : Kd.S k71 71 w base ok v l) (hb : base ≤ w.heap.size) (hl : l.length ≤ 1048576) (hk : 1 ≤ k) (hk2 : k ≤ 900000000000000) :
    Calls Tryd.prog 103 #[v, .int .i64 k] w fun e w' => e = .returned (.int .i64 (k + 2 * (l.length : Int))) ∧ Kd.S k71 71 w' base ok v (mkP mt k l.length) ∧ Below base w w' ∧ Kept w w' ok := by
  obtain ⟨A, c, rfl⟩ := Kd.S_slice hS
  have HS := Lib.hid hS
  have HN := Lib.hid (And.intro hb (And.intro hl (And.intro hk hk2)))
  have HMT := Lib.hid hmt
  clear hS hb hl hk hk2 hmt
  go_enter Tryd.func103, Tryd.ntmps103
  go_wp2
  go_loopg [1, 5] l.length (fun g1 v1 v5 wr => ∃ (xi ki : Int) (xs : List S71), v1 = .int .i64 ki ∧ v5 = .int .i64 xi ∧ Aside0 (0 ≤ xi ∧ xi ≤ l.length ∧ l.length - xi.toNat ≤ g1 ∧ ki = k + 2 * xi) ∧ Aside0 (Kd.S k71 71 wr base ok (.slice A l.length c) xs ∧ xs.take xi.toNat = (mkP mt k l.length).take xi.toNat) ∧ Aside0 (Below base w wr ∧ Kept w wr ok))
  case atStart => exact ⟨0, k, l, rfl, rfl, ⟨by omega, by omega, by simp, by omega⟩, ⟨HS.out, by simp⟩, ⟨Below.refl _ _, Kept.refl _ _⟩⟩
  case round =>
    clear HS
    obtain ⟨xi, ki, xs, rfl, rfl, X, S1, B1⟩ := hrel
    have hxl : xs.length = l.length := (Kd.S_reads' S1.out.1).1.symm
    have p1 : 0 ≤ xi := X.out.1
    by_cases hlt : xi < (l.length : Int)
    · have hn := HN.out
      have hki := X.out.2.2.2
      have ra : IntKind.i64.wrap (xi + 1) = xi + 1 := by rw [IntKind.wrap_i64]; omega
      obtain ⟨kj, hkj⟩ : ∃ q : Int, q = ki + 1 := ⟨_, rfl⟩
      obtain ⟨kl, hkl⟩ : ∃ q : Int, q = kj + 1 := ⟨_, rfl⟩
      have rb : IntKind.i64.wrap (ki + 1) = kj := by rw [IntKind.wrap_i64]; omega
      have rc : IntKind.i64.wrap (kj + 1) = kl := by rw [IntKind.wrap_i64]; omega
      obtain ⟨t0, ht0⟩ : ∃ t, t = mt ki := ⟨_, rfl⟩
      obtain ⟨t1, ht1⟩ : ∃ t, t = mt kj := ⟨_, rfl⟩
      have m0 := fun W => laws_markText.calls 40 ki t0 W (by rw [ht0]; exact HMT.out _ (by omega) (by omega))
      have m1 := fun W => laws_markText.calls 40 kj t1 W (by rw [ht1]; exact HMT.out _ (by omega) (by omega))
      obtain ⟨g, cap, ev, hbg, hgl, _⟩ := Kd.S_form S1.out.1 (by omega)
      injection ev with ea el ec
      subst ea; subst ec
      clear el
      have hokg : ok g := (Kd.S_R S1.out.1).1 g rfl
      obtain ⟨oki, cs, hcl, hM, hcc, hfr, hoki, hH⟩ := Kd.S_elem S1.out.1 z71 xi p1 (by omega)
      have ecs := k71_openM hM
      subst ecs
      obtain ⟨y, hy⟩ : ∃ y, y = xs.getD xi.toNat z71 := ⟨_, rfl⟩
      rw [← hy] at hH
      have HT := Lib.hid (And.intro ht0 (And.intro ht1 (And.intro hkj (And.intro hkl (And.intro hbg hokg)))))
      have HX := Lib.hid (And.intro hxl hlt)
      have HH := Lib.hid hH
      have P1 : True := trivial
      clear hcl hM hcc hfr hoki hH hy ht0 ht1 hkj hkl hbg hokg hxl hn hki hgl
      go_wp2_with (first
        | (have _ := P1; go_at_call 55; refine (m0 _).mono ?_; rintro e w2 ⟨rfl, hB2⟩; have HH2 := Lib.hid (Kd.H_below HH.out hB2); have HB2 := Lib.hid hB2; obtain ⟨hx0, hf0⟩ := el_cell HH2.out p1 (by omega) 0 (by decide) _ rfl; replace hx0 : w2.cell? ⟨g, xi.toNat * 2, none⟩ = some (.string y.f0) := hx0; replace hf0 : w2.frozen? ⟨g, xi.toNat * 2, none⟩ = false := hf0; clear hB2 P1 HH; have P2 : True := trivial)
        | (have _ := P2; go_at_call 55; have HH3 : Hid (Kd.H k71 71 (w2.setCell ⟨g, xi.toNat * 2, none⟩ (.string t0)) base ok (.slice (some ⟨g, 0, none⟩) l.length c) xs xi oki [.string t0, .string y.f1]) := Lib.hid (el_put HH2.out p1 (by omega) 0 (by decide) rfl (.string t0) rfl).1; have HB3 : Hid (Below base w (w2.setCell ⟨g, xi.toNat * 2, none⟩ (.string t0)) ∧ Kept w (w2.setCell ⟨g, xi.toNat * 2, none⟩ (.string t0)) ok) := Lib.hid ⟨Below.setCell (p := ⟨g, xi.toNat * 2, none⟩) (B1.out.1.trans (HB2.out.mono (by have := B1.out.2.1; have := HN.out.1; omega))) HT.out.2.2.2.2.1 _, Kept.setCell (p := ⟨g, xi.toNat * 2, none⟩) (B1.out.2.below HB2.out) (.inl HT.out.2.2.2.2.2) _⟩; refine (m1 _).mono ?_; rintro e w4 ⟨rfl, hB4⟩; have HH4 := Lib.hid (Kd.H_below HH3.out hB4); have HB4 := Lib.hid hB4; obtain ⟨hx1, hf1⟩ := el_cell HH4.out p1 (by omega) 1 (by decide) _ rfl; replace hx1 : w4.cell? ⟨g, xi.toNat * 2 + 1, none⟩ = some (.string y.f1) := hx1; replace hf1 : w4.frozen? ⟨g, xi.toNat * 2 + 1, none⟩ = false := hf1; clear hB4 P2 HH3 HH2 hx0 hf0 HB2 B1))
      have HH5 : Hid (Kd.H k71 71 (w4.setCell ⟨g, xi.toNat * 2 + 1, none⟩ (.string t1)) base ok (.slice (some ⟨g, 0, none⟩) l.length c) xs xi oki [.string t0, .string t1]) := Lib.hid (el_put HH4.out p1 (by omega) 1 (by decide) rfl (.string t1) rfl).1
      have HB5 : Aside0 (Below base w (w4.setCell ⟨g, xi.toNat * 2 + 1, none⟩ (.string t1)) ∧ Kept w (w4.setCell ⟨g, xi.toNat * 2 + 1, none⟩ (.string t1)) ok) := ⟨Below.setCell (p := ⟨g, xi.toNat * 2 + 1, none⟩) (HB3.out.1.trans (HB4.out.mono (by have := HB3.out.2.1; have := HN.out.1; omega))) HT.out.2.2.2.2.1 _, Kept.setCell (p := ⟨g, xi.toNat * 2 + 1, none⟩) (HB3.out.2.below HB4.out) (.inl HT.out.2.2.2.2.2) _⟩
      generalize w4.setCell ⟨g, xi.toNat * 2 + 1, none⟩ (.string t1) = w5 at HH5 HB5 ⊢
      go_roundg (l.length - (xi + 1).toNat)
      case measure => have := X.out.2.2; omega
      case rel =>
        refine ⟨xi + 1, kl, xs.set xi.toNat ⟨t0, t1⟩, by first | rfl | rw [rc], by first | rfl | rw [ra], ⟨by omega, by omega, Nat.le_refl _, by have := HT.out; have := X.out; omega⟩, ⟨Kd.H_back HH5.out (k71_mkM w5 base (fun _ => False) ⟨t0, t1⟩) (fun _ h => h.elim), ?_⟩, HB5⟩
        rw [show (xi + 1).toNat = xi.toNat + 1 by omega]
        refine take_set_next xs _ xi.toNat _ (by have := HX.out; omega) (by rw [mkP_len]; exact HX.out.1) S1.out.2 ?_
        rw [List.getElem?_eq_getElem (by rw [mkP_len]; omega), mkP_at, HT.out.1, HT.out.2.1, HT.out.2.2.1, X.out.2.2.2, show ((xi.toNat : Nat) : Int) = xi by omega]
    · have hx : xi = (l.length : Int) := by have := X.out.2.1; omega
      have HK := Lib.hid X.out.2.2.2
      have hxs : xs = mkP mt k l.length := by
        have h := S1.out.2
        rw [List.take_of_length_le (by omega), List.take_of_length_le (by rw [mkP_len]; omega)] at h
        exact h
      subst hxs
      go_wp2
      go_ret
      exact ⟨by rw [HK.out, hx]; rfl, S1.out.1, B1.out.1, B1.out.2⟩

def k3 (k : Int) : Bool := Int.tmod k 3 == 0
def mkE (mt : Int → ByteArray) (k : Int) (x : S68) : S68 := ⟨⟨k, k + 1, k + 2, mt (k + 3), k3 (k + 4)⟩, mkP mt (k + 5) x.f1.length, k + 5 + 2 * (x.f1.length : Int)⟩
def nxE (k : Int) (x : S68) : Int := k + 6 + 2 * (x.f1.length : Int)
def mkL (mt : Int → ByteArray) : Int → List S68 → List S68
  | _, [] => []
  | k, x :: l => mkE mt k x :: mkL mt (nxE k x) l
def nxL : Int → List S68 → Int
  | k, [] => k
  | k, x :: l => nxL (nxE k x) l
theorem nxL_snoc : ∀ (k : Int) (l : List S68) (x : S68), nxL k (l ++ [x]) = nxE (nxL k l) x
  | _, [], _ => rfl
  | k, y :: l, x => nxL_snoc (nxE k y) l x
theorem mkL_snoc (mt : Int → ByteArray) : ∀ (k : Int) (l : List S68) (x : S68), mkL mt k (l ++ [x]) = mkL mt k l ++ [mkE mt (nxL k l) x]
  | _, [], _ => rfl
  | k, y :: l, x => congrArg (mkE mt k y :: ·) (mkL_snoc mt (nxE k y) l x)
theorem mkL_len (mt : Int → ByteArray) : ∀ (k : Int) (l : List S68), (mkL mt k l).length = l.length
  | _, [] => rfl
  | k, y :: l => congrArg (· + 1) (mkL_len mt (nxE k y) l)
theorem nxL_le : ∀ (k : Int) (l : List S68) (B : Int), (∀ x ∈ l, (x.f1.length : Int) ≤ B) → 0 ≤ B → k ≤ nxL k l ∧ nxL k l ≤ k + (6 + 2 * B) * (l.length : Int)
  | k, [], B, _, _ => by simp [nxL]
  | k, y :: l, B, h, hB => by
    have h1 := nxL_le (nxE k y) l B (fun x hx => h x (List.mem_cons_of_mem _ hx)) hB
    have h2 := h y List.mem_cons_self
    have e : (6 + 2 * B) * ((y :: l).length : Int) = (6 + 2 * B) * (l.length : Int) + (6 + 2 * B) := by rw [List.length_cons, Int.natCast_add, Int.mul_add]; simp
    rw [e]
    show k ≤ nxL (nxE k y) l ∧ nxL (nxE k y) l ≤ _
    unfold nxE at h1 ⊢
    omega
theorem nx_take (k : Int) (l : List S68) (i : Nat) (hi : i < l.length) : nxL k (l.take (i + 1)) = nxE (nxL k (l.take i)) (l[i]'hi) := by
  rw [List.take_succ_eq_append_getElem hi, nxL_snoc]
theorem mk_take (mt : Int → ByteArray) (k : Int) (l : List S68) (i : Nat) (hi : i < l.length) : mkL mt k (l.take (i + 1)) = mkL mt k (l.take i) ++ [mkE mt (nxL k (l.take i)) (l[i]'hi)] := by
  rw [List.take_succ_eq_append_getElem hi, mkL_snoc]
set_option maxHeartbeats 16000000 in
set_option maxRecDepth 100000 in
theorem markE_walk (mt : Int → ByteArray) (hmt : MarkT mt) (v : Value) (l : List S68) (k : Int) (base : Nat) (ok : Nat → Prop) (w : World) (hS : Kd.S k68 68 w base ok v l) (hb : base ≤ w.heap.size) (hl : l.length ≤ 1048576) (hw : ∀ x ∈ l, x.f1.length ≤ 1048576) (hk : 1 ≤ k) (hk2 : k ≤ 1000) :
    Calls Tryd.prog 72 #[v, .int .i64 k] w fun e w' => e = .returned (.int .i64 (nxL k l)) ∧ Kd.S k68 68 w' base ok v (mkL mt k l) ∧ Below base w w' ∧ Kept w w' ok := by
  have hnx : ∀ i : Nat, i ≤ l.length → k ≤ nxL k (l.take i) ∧ nxL k (l.take i) ≤ 5000000000000 := fun i hi => by
    have h := nxL_le k (l.take i) 1048576 (fun x hx => by have := hw x (List.mem_of_mem_take hx); omega) (by decide)
    rw [List.length_take, Nat.min_eq_left hi] at h
    omega
  obtain ⟨A, c, rfl⟩ := Kd.S_slice hS
  have HS := Lib.hid hS
  have HN := Lib.hid (And.intro hb (And.intro hl (And.intro hk hw)))
  have HNX := Lib.hid hnx
  have HMT := Lib.hid hmt
  clear hS hb hl hk hk2 hmt hw hnx
  go_enter Tryd.func72, Tryd.ntmps72
  go_wp2
  go_loopg [1, 5] l.length (fun g1 v1 v5 wr => ∃ (xi ki : Int) (xs : List S68), v1 = .int .i64 ki ∧ v5 = .int .i64 xi ∧ Aside0 (0 ≤ xi ∧ xi ≤ l.length ∧ l.length - xi.toNat ≤ g1 ∧ ki = nxL k (l.take xi.toNat)) ∧ Aside0 (Kd.S k68 68 wr base ok (.slice A l.length c) xs ∧ xs = mkL mt k (l.take xi.toNat) ++ l.drop xi.toNat) ∧ Aside0 (Below base w wr ∧ Kept w wr ok))
  case atStart => exact ⟨0, k, l, rfl, rfl, ⟨by omega, by omega, by simp, by simp [nxL]⟩, ⟨HS.out, by simp [mkL]⟩, ⟨Below.refl _ _, Kept.refl _ _⟩⟩
  case round =>
    clear HS
    obtain ⟨xi, ki, xs, rfl, rfl, X, S1, B1⟩ := hrel
    have hxl : xs.length = l.length := (Kd.S_reads' S1.out.1).1.symm
    have p1 : 0 ≤ xi := X.out.1
    by_cases hlt : xi < (l.length : Int)
    · have hn := HN.out.2.1
      have hki := HNX.out xi.toNat (by omega)
      rw [← X.out.2.2.2] at hki
      have hk1 := HN.out.2.2.1
      have ra : IntKind.i64.wrap (xi + 1) = xi + 1 := by rw [IntKind.wrap_i64]; omega
      have hil : xi.toNat < l.length := by omega
      obtain ⟨y, hy⟩ : ∃ y, y = xs.getD xi.toNat z68 := ⟨_, rfl⟩
      have hyl : y = l[xi.toNat]'hil := by
        rw [hy, S1.out.2, List.getD_eq_getElem?_getD, List.getElem?_append_right (by rw [mkL_len, List.length_take]; omega), mkL_len, List.length_take, Nat.min_eq_left (by omega), Nat.sub_self, List.getElem?_drop, Nat.add_zero, List.getElem?_eq_getElem hil]; rfl
      have hyn : y.f1.length ≤ 1048576 := by rw [hyl]; exact HN.out.2.2.2 _ (List.getElem_mem hil)
      obtain ⟨k0, hk0⟩ : ∃ q : Int, q = ki := ⟨_, rfl⟩
      rw [← hk0]
      obtain ⟨k1, hkd1⟩ : ∃ q : Int, q = k0 + 1 := ⟨_, rfl⟩
      have rk1 : IntKind.i64.wrap (k0 + 1) = k1 := by rw [IntKind.wrap_i64]; omega
      obtain ⟨k2, hkd2⟩ : ∃ q : Int, q = k1 + 1 := ⟨_, rfl⟩
      have rk2 : IntKind.i64.wrap (k1 + 1) = k2 := by rw [IntKind.wrap_i64]; omega
      obtain ⟨k3', hkd3⟩ : ∃ q : Int, q = k2 + 1 := ⟨_, rfl⟩
      have rk3 : IntKind.i64.wrap (k2 + 1) = k3' := by rw [IntKind.wrap_i64]; omega
      obtain ⟨k4, hkd4⟩ : ∃ q : Int, q = k3' + 1 := ⟨_, rfl⟩
      have rk4 : IntKind.i64.wrap (k3' + 1) = k4 := by rw [IntKind.wrap_i64]; omega
      obtain ⟨k5, hkd5⟩ : ∃ q : Int, q = k4 + 1 := ⟨_, rfl⟩
      have rk5 : IntKind.i64.wrap (k4 + 1) = k5 := by rw [IntKind.wrap_i64]; omega
      obtain ⟨k6, hkd6⟩ : ∃ q : Int, q = k5 + 2 * (y.f1.length : Int) := ⟨_, rfl⟩
      obtain ⟨k7, hkd7⟩ : ∃ q : Int, q = k6 + 1 := ⟨_, rfl⟩
      have rk7 : IntKind.i64.wrap (k6 + 1) = k7 := by rw [IntKind.wrap_i64]; omega
      obtain ⟨t3, ht3⟩ : ∃ t, t = mt k3' := ⟨_, rfl⟩
      obtain ⟨b4, hb4⟩ : ∃ t, t = k3 k4 := ⟨_, rfl⟩
      have m0 := fun W => laws_markText.calls 40 k3' t3 W (by rw [ht3]; exact HMT.out _ (by omega) (by omega))
      have hb4' : (Int.tmod k4 3 == 0) = b4 := by rw [hb4]; rfl
      obtain ⟨g, cap, ev, hbg, hgl, _⟩ := Kd.S_form S1.out.1 (by omega)
      injection ev with ea el ec
      subst ea; subst ec
      clear el
      have hokg : ok g := (Kd.S_R S1.out.1).1 g rfl
      obtain ⟨oki, cs, hcl, hM, hcc, hfr, hoki, hH⟩ := Kd.S_elem S1.out.1 z68 xi p1 (by omega)
      rw [← hy] at hM
      obtain ⟨v5, ecs, hR5⟩ := k68_openM hM
      subst ecs
      obtain ⟨A5, c5, e5⟩ := Kd.R_slice hR5
      subst e5
      have hHr : Kd.H k68 68 wr base ok (.slice (some ⟨g, 0, none⟩) l.length c) xs xi oki [.int .i64 y.f0.f0, .int .i64 y.f0.f1, .int .i64 y.f0.f2, .string y.f0.f3, .bool y.f0.f4, (.slice A5 y.f1.length c5), .int .i64 y.f2] := hH
      have ma := fun (W : World) (hbW : base ≤ W.heap.size) (hSW : Kd.S k71 71 W base oki (.slice A5 y.f1.length c5) y.f1) => markA_walk mt HMT.out (.slice A5 y.f1.length c5) y.f1 k5 base oki W hSW hbW hyn (by omega) (by omega)
      have HMA := Lib.hid ma
      have HT := Lib.hid (And.intro hokg hbg)
      have HOK := Lib.hid (show ∀ k, oki k → k ≠ g from fun k hk => (hoki k hk).2)
      have HOI := Lib.hid (show ∀ k, oki k → ok k from fun k hk => (hoki k hk).1)
      have HR := Lib.hid hR5
      have HX := Lib.hid (And.intro hxl (And.intro hil (And.intro hyl (And.intro hyn (And.intro hn (And.intro hk1 hki))))))
      have HKK := Lib.hid (And.intro hk0 (And.intro hkd1 (And.intro hkd2 (And.intro hkd3 (And.intro hkd4 (And.intro hkd5 (And.intro hkd6 (And.intro hkd7 (And.intro ht3 hb4)))))))))
      have HH := Lib.hid hHr
      obtain ⟨hx0, hf0⟩ := el_cell HH.out p1 (by omega) 0 (by decide) _ rfl; replace hx0 : wr.cell? ⟨g, xi.toNat * 7, none⟩ = some (.int .i64 y.f0.f0) := hx0; replace hf0 : wr.frozen? ⟨g, xi.toNat * 7, none⟩ = false := hf0; obtain ⟨hx1, hf1⟩ := el_cell HH.out p1 (by omega) 1 (by decide) _ rfl; replace hx1 : wr.cell? ⟨g, xi.toNat * 7 + 1, none⟩ = some (.int .i64 y.f0.f1) := hx1; replace hf1 : wr.frozen? ⟨g, xi.toNat * 7 + 1, none⟩ = false := hf1; obtain ⟨hx2, hf2⟩ := el_cell HH.out p1 (by omega) 2 (by decide) _ rfl; replace hx2 : wr.cell? ⟨g, xi.toNat * 7 + 2, none⟩ = some (.int .i64 y.f0.f2) := hx2; replace hf2 : wr.frozen? ⟨g, xi.toNat * 7 + 2, none⟩ = false := hf2; obtain ⟨hx3, hf3⟩ := el_cell HH.out p1 (by omega) 3 (by decide) _ rfl; replace hx3 : wr.cell? ⟨g, xi.toNat * 7 + 3, none⟩ = some (.string y.f0.f3) := hx3; replace hf3 : wr.frozen? ⟨g, xi.toNat * 7 + 3, none⟩ = false := hf3; obtain ⟨hx4, hf4⟩ := el_cell HH.out p1 (by omega) 4 (by decide) _ rfl; replace hx4 : wr.cell? ⟨g, xi.toNat * 7 + 4, none⟩ = some (.bool y.f0.f4) := hx4; replace hf4 : wr.frozen? ⟨g, xi.toNat * 7 + 4, none⟩ = false := hf4; obtain ⟨hx5, hf5⟩ := el_cell HH.out p1 (by omega) 5 (by decide) _ rfl; replace hx5 : wr.cell? ⟨g, xi.toNat * 7 + 5, none⟩ = some ((.slice A5 y.f1.length c5)) := hx5; replace hf5 : wr.frozen? ⟨g, xi.toNat * 7 + 5, none⟩ = false := hf5; obtain ⟨hx6, hf6⟩ := el_cell HH.out p1 (by omega) 6 (by decide) _ rfl; replace hx6 : wr.cell? ⟨g, xi.toNat * 7 + 6, none⟩ = some (.int .i64 y.f2) := hx6; replace hf6 : wr.frozen? ⟨g, xi.toNat * 7 + 6, none⟩ = false := hf6
      have P1 : True := trivial
      clear hcl hM hcc hfr hoki hH hHr ht3 hb4 hbg hokg hxl hn hki hk1 hgl hyl hy hyn hR5 ma hk0 hkd1 hkd2 hkd3 hkd4 hkd5 hkd6 hkd7
      go_wp2_with (first
        | (have _ := P1; go_at_call 55; have HHA : Hid (Kd.H k68 68 (((wr.setCell ⟨g, xi.toNat * 7, none⟩ (.int .i64 k0)).setCell ⟨g, xi.toNat * 7 + 1, none⟩ (.int .i64 k1)).setCell ⟨g, xi.toNat * 7 + 2, none⟩ (.int .i64 k2)) base ok (.slice (some ⟨g, 0, none⟩) l.length c) xs xi oki [.int .i64 k0, .int .i64 k1, .int .i64 k2, .string y.f0.f3, .bool y.f0.f4, (.slice A5 y.f1.length c5), .int .i64 y.f2]) := Lib.hid ((el_put (el_put (el_put HH.out p1 (by omega) 0 (by decide) rfl (.int .i64 k0) rfl).1 p1 (by omega) 1 (by decide) rfl (.int .i64 k1) rfl).1 p1 (by omega) 2 (by decide) rfl (.int .i64 k2) rfl).1); have HBA : Hid (Below base w (((wr.setCell ⟨g, xi.toNat * 7, none⟩ (.int .i64 k0)).setCell ⟨g, xi.toNat * 7 + 1, none⟩ (.int .i64 k1)).setCell ⟨g, xi.toNat * 7 + 2, none⟩ (.int .i64 k2)) ∧ Kept w (((wr.setCell ⟨g, xi.toNat * 7, none⟩ (.int .i64 k0)).setCell ⟨g, xi.toNat * 7 + 1, none⟩ (.int .i64 k1)).setCell ⟨g, xi.toNat * 7 + 2, none⟩ (.int .i64 k2)) ok) := Lib.hid ⟨(Below.setCell (p := ⟨g, xi.toNat * 7 + 2, none⟩) (Below.setCell (p := ⟨g, xi.toNat * 7 + 1, none⟩) (Below.setCell (p := ⟨g, xi.toNat * 7, none⟩) B1.out.1 HT.out.2 _) HT.out.2 _) HT.out.2 _), (Kept.setCell (p := ⟨g, xi.toNat * 7 + 2, none⟩) (Kept.setCell (p := ⟨g, xi.toNat * 7 + 1, none⟩) (Kept.setCell (p := ⟨g, xi.toNat * 7, none⟩) B1.out.2 (.inl HT.out.1) _) (.inl HT.out.1) _) (.inl HT.out.1) _)⟩; have HRA : Hid (k71.R 71 (((wr.setCell ⟨g, xi.toNat * 7, none⟩ (.int .i64 k0)).setCell ⟨g, xi.toNat * 7 + 1, none⟩ (.int .i64 k1)).setCell ⟨g, xi.toNat * 7 + 2, none⟩ (.int .i64 k2)) base oki (.slice A5 y.f1.length c5) y.f1) := Lib.hid (Kd.R_far (Kd.R_far (Kd.R_far HR.out (p := ⟨g, xi.toNat * 7, none⟩) HOK.out _) (p := ⟨g, xi.toNat * 7 + 1, none⟩) HOK.out _) (p := ⟨g, xi.toNat * 7 + 2, none⟩) HOK.out _); refine (m0 _).mono ?_; rintro e w2 ⟨rfl, hB2⟩; have HH2 := Lib.hid (Kd.H_below HHA.out hB2); have HBB : Hid (Below base w w2 ∧ Kept w w2 ok) := Lib.hid ⟨HBA.out.1.trans (hB2.mono (by have := HBA.out.1.size; have := HN.out.1; omega)), HBA.out.2.below hB2⟩; have HR2 := Lib.hid (Kd.R_below HRA.out hB2); clear hx0 hx1 hx2 hx3 hx4 hx5 hx6 hf0 hf1 hf2 hf3 hf4 hf5 hf6; obtain ⟨hx3, hf3⟩ := el_cell HH2.out p1 (by omega) 3 (by decide) _ rfl; replace hx3 : w2.cell? ⟨g, xi.toNat * 7 + 3, none⟩ = some (.string y.f0.f3) := hx3; replace hf3 : w2.frozen? ⟨g, xi.toNat * 7 + 3, none⟩ = false := hf3; obtain ⟨hx4, hf4⟩ := el_cell HH2.out p1 (by omega) 4 (by decide) _ rfl; replace hx4 : w2.cell? ⟨g, xi.toNat * 7 + 4, none⟩ = some (.bool y.f0.f4) := hx4; replace hf4 : w2.frozen? ⟨g, xi.toNat * 7 + 4, none⟩ = false := hf4; obtain ⟨hx5, hf5⟩ := el_cell HH2.out p1 (by omega) 5 (by decide) _ rfl; replace hx5 : w2.cell? ⟨g, xi.toNat * 7 + 5, none⟩ = some ((.slice A5 y.f1.length c5)) := hx5; replace hf5 : w2.frozen? ⟨g, xi.toNat * 7 + 5, none⟩ = false := hf5; obtain ⟨hx6, hf6⟩ := el_cell HH2.out p1 (by omega) 6 (by decide) _ rfl; replace hx6 : w2.cell? ⟨g, xi.toNat * 7 + 6, none⟩ = some (.int .i64 y.f2) := hx6; replace hf6 : w2.frozen? ⟨g, xi.toNat * 7 + 6, none⟩ = false := hf6; clear hB2 P1 HH HHA HBA HRA HR B1; have P2 : True := trivial)
        | (have _ := P2; go_at_call 103; have HHC : Hid (Kd.H k68 68 ((w2.setCell ⟨g, xi.toNat * 7 + 3, none⟩ (.string t3)).setCell ⟨g, xi.toNat * 7 + 4, none⟩ (.bool b4)) base ok (.slice (some ⟨g, 0, none⟩) l.length c) xs xi oki [.int .i64 k0, .int .i64 k1, .int .i64 k2, .string t3, .bool b4, (.slice A5 y.f1.length c5), .int .i64 y.f2]) := Lib.hid ((el_put (el_put HH2.out p1 (by omega) 3 (by decide) rfl (.string t3) rfl).1 p1 (by omega) 4 (by decide) rfl (.bool b4) rfl).1); have HBC : Hid (Below base w ((w2.setCell ⟨g, xi.toNat * 7 + 3, none⟩ (.string t3)).setCell ⟨g, xi.toNat * 7 + 4, none⟩ (.bool b4)) ∧ Kept w ((w2.setCell ⟨g, xi.toNat * 7 + 3, none⟩ (.string t3)).setCell ⟨g, xi.toNat * 7 + 4, none⟩ (.bool b4)) ok) := Lib.hid ⟨(Below.setCell (p := ⟨g, xi.toNat * 7 + 4, none⟩) (Below.setCell (p := ⟨g, xi.toNat * 7 + 3, none⟩) HBB.out.1 HT.out.2 _) HT.out.2 _), (Kept.setCell (p := ⟨g, xi.toNat * 7 + 4, none⟩) (Kept.setCell (p := ⟨g, xi.toNat * 7 + 3, none⟩) HBB.out.2 (.inl HT.out.1) _) (.inl HT.out.1) _)⟩; have HRC : Hid (k71.R 71 ((w2.setCell ⟨g, xi.toNat * 7 + 3, none⟩ (.string t3)).setCell ⟨g, xi.toNat * 7 + 4, none⟩ (.bool b4)) base oki (.slice A5 y.f1.length c5) y.f1) := Lib.hid (Kd.R_far (Kd.R_far HR2.out (p := ⟨g, xi.toNat * 7 + 3, none⟩) HOK.out _) (p := ⟨g, xi.toNat * 7 + 4, none⟩) HOK.out _); refine (HMA.out _ (by have := HBC.out.1.size; have := HN.out.1; omega) (S_of_A HRC.out)).mono ?_; rintro e w4 ⟨rfl, hS4, hB4, hK4⟩; rw [← HKK.out.2.2.2.2.2.2.1]; have HH4 := Lib.hid (Kd.H_kept HHC.out hK4 (fun k _ hn => hn)); have HBD : Hid (Below base w w4 ∧ Kept w w4 ok) := Lib.hid ⟨HBC.out.1.trans hB4, HBC.out.2.then_ hK4 (fun k hk => .inl (HOI.out k hk))⟩; have HS4 := Lib.hid hS4; clear hx3 hx4 hx5 hx6 hf3 hf4 hf5 hf6; obtain ⟨hx5, hf5⟩ := el_cell HH4.out p1 (by omega) 5 (by decide) _ rfl; replace hx5 : w4.cell? ⟨g, xi.toNat * 7 + 5, none⟩ = some ((.slice A5 y.f1.length c5)) := hx5; replace hf5 : w4.frozen? ⟨g, xi.toNat * 7 + 5, none⟩ = false := hf5; obtain ⟨hx6, hf6⟩ := el_cell HH4.out p1 (by omega) 6 (by decide) _ rfl; replace hx6 : w4.cell? ⟨g, xi.toNat * 7 + 6, none⟩ = some (.int .i64 y.f2) := hx6; replace hf6 : w4.frozen? ⟨g, xi.toNat * 7 + 6, none⟩ = false := hf6; clear hS4 hB4 hK4 P2 HH2 HHC HBC HRC HR2 HBB))
      have HH5 : Hid (Kd.H k68 68 (w4.setCell ⟨g, xi.toNat * 7 + 6, none⟩ (.int .i64 k6)) base ok (.slice (some ⟨g, 0, none⟩) l.length c) xs xi oki [.int .i64 k0, .int .i64 k1, .int .i64 k2, .string t3, .bool b4, (.slice A5 y.f1.length c5), .int .i64 k6]) := Lib.hid ((el_put HH4.out p1 (by omega) 6 (by decide) rfl (.int .i64 k6) rfl).1)
      have HB5 : Aside0 (Below base w (w4.setCell ⟨g, xi.toNat * 7 + 6, none⟩ (.int .i64 k6)) ∧ Kept w (w4.setCell ⟨g, xi.toNat * 7 + 6, none⟩ (.int .i64 k6)) ok) := ⟨(Below.setCell (p := ⟨g, xi.toNat * 7 + 6, none⟩) HBD.out.1 HT.out.2 _), (Kept.setCell (p := ⟨g, xi.toNat * 7 + 6, none⟩) HBD.out.2 (.inl HT.out.1) _)⟩
      have HR5 : Hid (k71.R 71 (w4.setCell ⟨g, xi.toNat * 7 + 6, none⟩ (.int .i64 k6)) base oki (.slice A5 y.f1.length c5) (mkP mt k5 y.f1.length)) := Lib.hid (Kd.R_far (Kd.S_R HS4.out) (p := ⟨g, xi.toNat * 7 + 6, none⟩) HOK.out _)
      generalize (w4.setCell ⟨g, xi.toNat * 7 + 6, none⟩ (.int .i64 k6)) = w5 at HH5 HB5 HR5 ⊢
      go_roundg (l.length - (xi + 1).toNat)
      case measure => have := X.out.2.2; omega
      case rel =>
        have e1 : (xi + 1).toNat = xi.toNat + 1 := by omega
        obtain ⟨q0, q1, q2, q3, q4, q5, q6, q7, q8, q9⟩ := HKK.out
        obtain ⟨x1, x2, x3, x4, _⟩ := HX.out
        have enx : k7 = nxL k (l.take (xi.toNat + 1)) := by rw [nx_take k l _ x2, ← x3, ← X.out.2.2.2]; unfold nxE; omega
        have emk : mkE mt ki y = ⟨⟨k0, k1, k2, t3, b4⟩, mkP mt k5 y.f1.length, k6⟩ := by
          unfold mkE
          rw [show ki + 5 = k5 by omega, show ki + 4 = k4 by omega, show ki + 3 = k3' by omega, show ki + 2 = k2 by omega, show ki + 1 = k1 by omega, ← q8, ← q9, ← q0, q6]
        refine ⟨xi + 1, k7, xs.set xi.toNat (mkE mt ki y), rfl, by first | rfl | rw [ra], ⟨by omega, by omega, Nat.le_refl _, by rw [e1]; exact enx⟩, ⟨?_, ?_⟩, HB5⟩
        · refine Kd.H_back HH5.out ?_ (fun _ h => h)
          rw [emk]
          have hlen : (mkP mt k5 y.f1.length).length = y.f1.length := mkP_len _ _ _
          exact k68_mkM w5 base oki (⟨⟨k0, k1, k2, t3, b4⟩, mkP mt k5 y.f1.length, k6⟩ : S68) HR5.out
        · rw [e1, mk_take mt k l _ x2, S1.out.2, ← x3, ← X.out.2.2.2]
          have hlm : (mkL mt k (l.take xi.toNat)).length = xi.toNat := by rw [mkL_len, List.length_take]; omega
          rw [List.set_append_right _ _ (by omega), hlm, Nat.sub_self, List.drop_eq_getElem_cons x2, List.set_cons_zero, List.append_assoc]; rfl
    · have hx : xi = (l.length : Int) := by have := X.out.2.1; omega
      have hx2 : xi.toNat = l.length := by omega
      have hxs : xs = mkL mt k l := by
        have h := S1.out.2
        rw [hx2, List.drop_length, List.append_nil, List.take_length] at h
        exact h
      have HK : Hid (ki = nxL k l) := Lib.hid (by rw [X.out.2.2.2, hx2, List.take_length])
      subst hxs
      clear hx hx2
      go_wp2
      go_ret
      exact ⟨by rw [HK.out]; rfl, S1.out.1, B1.out.1, B1.out.2⟩
end Go.Proofs.YtnghcnkffbjddaaDoorV.Aes
