/- What the program's GoodHeader answers, and its walk for all arguments. Conditions: at most 1048576 versions. -/
import Derived.Test.YtlohefjigggjiaaVHdr2
namespace Go.Proofs.YtlohefjigggjiaaV.Aes
open Go.RowKit Go.Proofs.YtlohefjigggjiaaV.PrintWords Go.Proofs.YtlohefjigggjiaaV.PrintLast Go.Proofs.YtlohefjigggjiaaV.PrintMore Go.Proofs.YtlohefjigggjiaaV.Mem
set_option linter.unusedVariables false
set_option linter.unusedSimpArgs false

def goodH (f b v : Int) (d s t p : ByteArray) (n : Nat) (cb : Bool) : Bool :=
  if d.size > 20 then false else if s.size > 20 then false else if ¬ (0 ≤ b ∧ b ≤ 15) then false else if t.size > 200 then false else if p.size > 1200 then false
  else if f = 0 then (if n = 0 then (if 1 ≤ v ∧ v ≤ 4294967295 then (if p.toList = ([] : List UInt8) then false else true) else false) else false)
  else if t.toList = ([] : List UInt8) then
    (if f = 4 then (if v = 0 then (if p.toList = ([] : List UInt8) then (if 1 ≤ n ∧ n ≤ 20 then !cb else false) else false) else false)
     else if n = 0 then
      (if 0 ≤ f ∧ f ≤ 3 then (if 1 ≤ v ∧ v ≤ 4294967295 then (if p.toList = ([] : List UInt8) then false else true) else false)
       else if f = 5 then (if v = 0 then (if s.toList = ([] : List UInt8) then true else false) else false) else false)
     else false)
  else false
theorem goodH_walk (f b v : Int) (d s t p : ByteArray) (A : Option Addr) (c n : Nat) (w : World) (cb : Bool)
    (hcon : ∀ W, Below w.heap.size w W → Calls Try.prog 75 #[.slice A n c, .func (.func 76) #[] #[]] W fun e w' => e = .returned (.bool cb) ∧ W = w') :
    Calls Try.prog 30 #[.agg #[.int .i64 f, .int .i64 b, .int .i64 v, .string d, .string s, .string t, .string p, .slice A n c]] w fun e w' => e = .returned (.bool (goodH f b v d s t p n cb)) ∧ Below w.heap.size w w' := by
  unfold goodH
  by_cases h1 : d.size > 20
  · rw [if_pos h1]; exact gh_a0 f b v d s t p A c n w h1
  rw [if_neg h1]
  by_cases h2 : s.size > 20
  · rw [if_pos h2]; exact gh_a1 f b v d s t p A c n w h1 h2
  rw [if_neg h2]
  by_cases h3 : 0 ≤ b ∧ b ≤ 15
  rotate_left
  · rw [if_pos h3]; exact gh_a2 f b v d s t p A c n w h1 h2 h3
  rw [if_neg (not_not_intro h3)]
  by_cases h4 : t.size > 200
  · rw [if_pos h4]; exact gh_a3 f b v d s t p A c n w h1 h2 h3 h4
  rw [if_neg h4]
  by_cases h5 : p.size > 1200
  · rw [if_pos h5]; exact gh_a4 f b v d s t p A c n w h1 h2 h3 h4 h5
  rw [if_neg h5]
  by_cases f0 : f = 0
  · rw [if_pos f0]
    by_cases l0 : n = 0
    · rw [if_pos l0]
      by_cases vv : 1 ≤ v ∧ v ≤ 4294967295
      · rw [if_pos vv]
        by_cases pe : p.toList = ([] : List UInt8)
        · rw [if_pos pe]; exact gh_A2 f b v d s t p A c n w h1 h2 h3 h4 h5 f0 (by omega) l0 (by omega) vv pe
        · rw [if_neg pe]; exact gh_A3 f b v d s t p A c n w h1 h2 h3 h4 h5 f0 (by omega) l0 (by omega) vv pe
      · rw [if_neg vv]; exact gh_A1 f b v d s t p A c n w h1 h2 h3 h4 h5 f0 (by omega) l0 (by omega) vv
    · rw [if_neg l0]; exact gh_q2 f b v d s t p A c n w h1 h2 h3 h4 h5 f0 (by omega) l0
  rw [if_neg f0]
  by_cases te : t.toList = ([] : List UInt8)
  rotate_left
  · rw [if_neg te]; exact gh_q1 f b v d s t p A c n w h1 h2 h3 h4 h5 f0 te
  rw [if_pos te]
  by_cases f4 : f = 4
  · rw [if_pos f4]
    by_cases v0 : v = 0
    · rw [if_pos v0]
      by_cases pe : p.toList = ([] : List UInt8)
      · rw [if_pos pe]
        by_cases ll : 1 ≤ n ∧ n ≤ 20
        · rw [if_pos ll]; exact gh_B4 f b v d s t p A c n w h1 h2 h3 h4 h5 f0 te f4 (by omega) v0 pe ll cb hcon
        · rw [if_neg ll]; exact gh_B3 f b v d s t p A c n w h1 h2 h3 h4 h5 f0 te f4 (by omega) v0 pe ll cb hcon
      · rw [if_neg pe]; exact gh_B2 f b v d s t p A c n w h1 h2 h3 h4 h5 f0 te f4 (by omega) v0 pe cb hcon
    · rw [if_neg v0]; exact gh_B1 f b v d s t p A c n w h1 h2 h3 h4 h5 f0 te f4 (by omega) v0 cb hcon
  rw [if_neg f4]
  by_cases l0 : n = 0
  rotate_left
  · rw [if_neg l0]; exact gh_q3 f b v d s t p A c n w h1 h2 h3 h4 h5 f0 te f4 l0
  rw [if_pos l0]
  by_cases lg : 0 ≤ f ∧ f ≤ 3
  · rw [if_pos lg]
    by_cases vv : 1 ≤ v ∧ v ≤ 4294967295
    · rw [if_pos vv]
      by_cases pe : p.toList = ([] : List UInt8)
      · rw [if_pos pe]; exact gh_C2 f b v d s t p A c n w h1 h2 h3 h4 h5 f0 te f4 l0 lg vv pe
      · rw [if_neg pe]; exact gh_C3 f b v d s t p A c n w h1 h2 h3 h4 h5 f0 te f4 l0 lg vv pe
    · rw [if_neg vv]; exact gh_C1 f b v d s t p A c n w h1 h2 h3 h4 h5 f0 te f4 l0 lg vv
  rw [if_neg lg]
  by_cases f5 : f = 5
  · rw [if_pos f5]
    by_cases v0 : v = 0
    · rw [if_pos v0]
      by_cases se : s.toList = ([] : List UInt8)
      · rw [if_pos se]; exact gh_E4 f b v d s t p A c n w h1 h2 h3 h4 h5 f0 te f4 l0 lg f5 v0 se
      · rw [if_neg se]; exact gh_E3 f b v d s t p A c n w h1 h2 h3 h4 h5 f0 te f4 l0 lg f5 v0 se
    · rw [if_neg v0]; exact gh_E2 f b v d s t p A c n w h1 h2 h3 h4 h5 f0 te f4 l0 lg f5 v0
  · rw [if_neg f5]; exact gh_E1 f b v d s t p A c n w h1 h2 h3 h4 h5 f0 te f4 l0 lg f5
theorem goodH_calls (f b v : Int) (d s t p : ByteArray) (A : Option Addr) (c : Nat) (l : List Int) (w : World) (hr : Kd.C (Kd.int .i64) w A l.length l) (hl : l.length ≤ 1048576) :
    Calls Try.prog 30 #[.agg #[.int .i64 f, .int .i64 b, .int .i64 v, .string d, .string s, .string t, .string p, .slice A l.length c]] w fun e w' => e = .returned (.bool (goodH f b v d s t p l.length (l.any badV))) ∧ Below w.heap.size w w' :=
  goodH_walk f b v d s t p A c l.length w (l.any badV) fun W hB => contains_at A c l.length l _ rfl w W rfl hr hl hB
end Go.Proofs.YtlohefjigggjiaaV.Aes
