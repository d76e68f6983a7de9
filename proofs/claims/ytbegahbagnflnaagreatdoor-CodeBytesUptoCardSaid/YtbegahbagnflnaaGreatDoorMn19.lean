import Derived.Test.YtbegahbagnflnaaGreatDoorMn08
import Derived.Test.YtbegahbagnflnaaGreatDoorMn07
import Derived.Lib.SlicesCompact
import Derived.Sort.EncStr
import Derived.Ground.NamesProg
import Derived.Shelf.Sort.Plain
import Derived.Shelf.Slices.CompactS
import Derived.Shelf.Slices.In.SortNone
import Derived.Sort.OwnSorted
import Derived.Lib.OwnBridge
import Derived.Deep.CutRange
import Derived.Deep.CutBlock
import Derived.Test.YtbegahbagnflnaaGreatDoorMn18
import Derived.Test.YtbegahbagnflnaaGreatDoorMn01
import Derived.Laws.BitsAll
import Derived.Laws.Tables
namespace Go.Proofs
open Go.Shelf
end Go.Proofs
set_option linter.unusedSimpArgs false
set_option linter.unusedVariables false
set_option linter.unnecessarySimpa false
namespace Go.Proofs.YtbegahbagnflnaaGreatDoor
section
open Go.RowKit
end
section
open Go.RowKit Go.Shelf Go.Sort
end
section
open Go.RowKit
end
section
open Go.RowKit
theorem csource_any {base K : Nat} {w : World} {l : List Nd} (h : CodeBox base w l K) (hz : szL l ≤ 1099511627776) :
  Calls Tryz.prog 13 #[.pointer (some ⟨K, 0, none⟩)] w fun e w' => ∃ v', e = .returned v' ∧ NL (fun _ => True) w' l v' ∧ Fr (fun _ => False) w w' := by
 obtain ⟨C, h1, sv, L, nb, T, ⟨lv, nv, bv, xs, zs, h2, -⟩, -, -, -, -, hn⟩ := h
 have c0 : w.cell? ⟨K, 0, none⟩ = some (.pointer (some ⟨C, 0, none⟩)) := by rw [cell_of_row _ _ _ _ _ _ h1]; rfl
 have d3 : w.cell? ⟨C, 3, none⟩ = some sv := by rw [cell_of_row _ _ _ _ _ _ h2]; rfl
 have HC := hid (tclone_any l hz _ w sv hn)
 obtain ⟨a, c, us, rfl, -⟩ := id hn
 clear h1 h2 hn hz
 go_enter Tryz.func13, Tryz.ntmps13
 go_wp2_with fail
 refine HC.out.mono ?_
 rintro e w2 ⟨v2, rfl, hf, hc⟩
 have HN := hid (hc.own.close.mono (E := fun _ => True) fun _ _ _ => trivial)
 have HF := hid hf
 obtain ⟨a2, c2, us2, rfl, -⟩ := id HN.out
 clear hc hf HC
 go_wp2_with fail
 go_ret
 exact ⟨_, rfl, HN.out, HF.out⟩
def five : List ByteArray := [⟨#[116, 104, 105, 115]⟩, ⟨#[112, 108, 97, 121, 101, 114]⟩, ⟨#[99, 97, 108, 108, 101, 114]⟩, ⟨#[118, 101, 114, 98]⟩, ⟨#[97, 114, 103, 115]⟩]
end
section
open Go.RowKit
theorem clen_any {base K : Nat} {w : World} {l : List Nd} (h : CodeBox base w l K) :
  Calls Tryz.prog 11 #[.pointer (some ⟨K, 0, none⟩)] w fun e w' => e = .returned (.int .i64 ((sumR 7 l + 2 : Nat) : Int)) ∧ Fr (fun _ => False) w w' := by
 obtain ⟨C, h1, sv, L, nb, T, ⟨lv, nv, bv, xs, zs, h2, ho1, -, -, -⟩, -, hL, -⟩ := h
 obtain ⟨a, c, rfl, -⟩ := own_len ho1
 have c0 : w.cell? ⟨K, 0, none⟩ = some (.pointer (some ⟨C, 0, none⟩)) := by rw [cell_of_row _ _ _ _ _ _ h1]; rfl
 have d0 : w.cell? ⟨C, 0, none⟩ = some (.slice a L.length c) := by rw [cell_of_row _ _ _ _ _ _ h2]; rfl
 rw [← hL]
 clear h1 h2 ho1 hL
 go_enter Tryz.func11, Tryz.ntmps11
 go_wp2_with fail
 go_ret
 exact ⟨rfl, Fr.refl _ _⟩
theorem ccheck_any {base K : Nat} {w : World} {l : List Nd} (h : CodeBox base w l K) (hs : sumR 7 l ≤ 1073741800) :
  Calls Tryz.prog 14 #[.pointer (some ⟨K, 0, none⟩)] w fun e w' => e = .returned .nilIface ∧ Fr (fun _ => False) w w' := by
 obtain ⟨C, h1, sv, L, nb, T, hat, ht, hL, hnb, -⟩ := h
 have HC := hid (mcheck_any w hat ht (by omega) (by omega))
 have c0 : w.cell? ⟨K, 0, none⟩ = some (.pointer (some ⟨C, 0, none⟩)) := by rw [cell_of_row _ _ _ _ _ _ h1]; rfl
 clear h1 hat ht hL hnb hs
 go_enter Tryz.func14, Tryz.ntmps14
 go_wp2_with fail
 refine HC.out.mono ?_
 rintro e w2 ⟨rfl, hf⟩
 have HF := hid hf
 clear hf HC
 go_wp2_with fail
 go_ret
 exact ⟨rfl, HF.out⟩
set_option maxRecDepth 100000 in
theorem cfirst_any (pa : Nat → Addr) (w : World) (hE : Sent5 w pa) (hg : 7 ≤ w.heap.size) : Calls Tryz.prog 5 #[] w fun e w' => e = .returned (.bool true) ∧ Fr (fun _ => False) w w' := by
 have h0 : (pValid [] 7).c = 0 := rfl
 have HC := hid (compile_any pa [] (by simp [szL]) (fun _ => False) w (.slice none 0 0) (NL.nil _ _) hE hg)
 clear hE hg
 go_enter Tryz.func5, Tryz.ntmps5
 go_wp2_with fail
 refine HC.out.mono ?_
 rintro e w2 ⟨r, ev, rfl, hf, -, ⟨-, rfl, K, rfl, hb⟩ | ⟨hc, -⟩⟩
 ·have HF := hid hf
  have HB := hid (ccheck_any hb (by simp [sumR]))
  clear hf hb HC
  go_wp2_with fail
  refine HB.out.mono ?_
  rintro e w3 ⟨rfl, hf3⟩
  have HF3 := hid (HF.out.trans' hf3)
  clear hf3 HB
  go_wp2_with fail
  go_ret
  exact ⟨rfl, HF3.out⟩
 ·exact absurd h0 hc
end
section
def leN (n k : Nat) : List UInt8 := (List.range k).map fun i => UInt8.ofNat (n / 2 ^ (8 * i))
def deN : List UInt8 → Nat
 | [] => 0
 | b :: r => b.toNat + 256 * deN r
theorem leN_len (n k : Nat) : (leN n k).length = k := by simp [leN]
theorem leN_snoc (n k : Nat) : leN n (k + 1) = leN n k ++ [UInt8.ofNat (n / 2 ^ (8 * k))] := by simp [leN, List.range_succ]
theorem leN_cons (n k : Nat) : leN n (k + 1) = UInt8.ofNat n :: leN (n / 256) k := by
 simp only [leN, List.range_succ_eq_map, List.map_cons, List.map_map]
 refine congr (congrArg _ (by simp)) (List.map_congr_left fun i _ => ?_)
 simp only [Function.comp]
 rw [Nat.div_div_eq_div_mul, show 8 * (i + 1) = 8 + 8 * i by omega, Nat.pow_add]
theorem deN_leN : ∀ (k n : Nat), n < 256 ^ k → deN (leN n k) = n
 | 0, n, h => by simp at h; subst h; rfl
 | k + 1, n, h => by
  rw [leN_cons, deN, deN_leN k (n / 256) (by rw [Nat.pow_succ] at h; omega)]
  simp
  omega
theorem deN_lt : ∀ l : List UInt8, deN l < 256 ^ l.length
 | [] => by simp [deN]
 | b :: r => by
  have h1 := deN_lt r
  have h2 := b.toNat_lt
  rw [List.length_cons, Nat.pow_succ, deN]
  omega
theorem deN_snoc : ∀ (l : List UInt8) (b : UInt8), deN (l ++ [b]) = deN l + 2 ^ (8 * l.length) * b.toNat
 | [], b => by simp [deN]
 | c :: r, b => by
  rw [List.cons_append, deN, deN_snoc r b, deN, List.length_cons, show 8 * (r.length + 1) = 8 * r.length + 8 by omega, Nat.pow_add, Nat.mul_comm (2 ^ (8 * r.length)) (2 ^ 8), Nat.mul_add, Nat.mul_assoc]
  omega
def uI (n : Int) : Nat := (n % 18446744073709551616).toNat
def sI (u : Nat) : Int := if u < 9223372036854775808 then (u : Int) else (u : Int) - 18446744073709551616
theorem uI_lt (n : Int) : uI n < 18446744073709551616 := by unfold uI; omega
theorem sI_uI {n : Int} (h : -9223372036854775808 ≤ n ∧ n < 9223372036854775808) : sI (uI n) = n := by unfold sI uI; split <;> omega
def encI (n : Int) : List UInt8 := leN (uI n) 8
def encS (s : ByteArray) : List UInt8 := leN s.size 4 ++ s.data.toList
def encV (v : V) : List UInt8 := leN (uI v.k) 1 ++ if v.k = 2 then encS v.s else encI v.n
mutual
def encN : Nd → List UInt8
 | .mk op ln s v l => leN (uI op) 1 ++ (encI ln ++ (encS s ++ (encV v ++ (leN l.length 4 ++ encNs l))))
def encNs : List Nd → List UInt8
 | [] => []
 | x :: r => encN x ++ encNs r
end
def encL (l : List Nd) : List UInt8 := leN l.length 4 ++ encNs l
theorem encN_eq (x : Nd) : encN x = leN (uI x.op) 1 ++ (encI x.ln ++ (encS x.s ++ (encV x.v ++ encL x.l))) := by cases x; simp [encN, encL, Nd.op, Nd.ln, Nd.s, Nd.v, Nd.l]
structure RS where
 at_ : Nat
 ok : Bool
def RS.fail (s : RS) : RS := ⟨s.at_, false⟩
variable (B : List UInt8)
def rNum (k : Nat) (s : RS) : Nat × RS := if s.ok = false ∨ B.length < s.at_ + k then (0, s.fail) else (deN ((B.drop s.at_).take k), ⟨s.at_ + k, true⟩)
def rMany (most : Int) (s : RS) : Nat × RS :=
 let r := rNum B 4 s
 if r.2.ok = false ∨ (0 ≤ most ∧ most < (r.1 : Int)) then (0, r.2.fail) else r
def rText (most : Int) (s : RS) : ByteArray × RS :=
 let r := rMany B most s
 if r.2.ok = false ∨ B.length < r.2.at_ + r.1 then (⟨#[]⟩, r.2.fail) else (⟨((B.drop r.2.at_).take r.1).toArray⟩, ⟨r.2.at_ + r.1, true⟩)
def rLoop {σ α : Type} (ok : σ → Bool) (f : σ → α × σ) : Nat → σ → List α × σ
 | 0, s => ([], s)
 | n + 1, s => if ok s = false then ([], s) else ((f s).1 :: (rLoop ok f n (f s).2).1, (rLoop ok f n (f s).2).2)
def rVal : Nat → RS → V × RS
 | 0, s => (.mk 0 0 ⟨#[]⟩ [], s.fail)
 | d + 1, s =>
  let r := rNum B 1 s
  if r.1 = 0 ∨ r.1 = 1 ∨ r.1 = 3 then (.mk r.1 (sI (rNum B 8 r.2).1) ⟨#[]⟩ [], (rNum B 8 r.2).2)
  else if r.1 = 2 then (.mk 2 0 (rText B 4096 r.2).1 [], (rText B 4096 r.2).2)
  else if r.1 = 4 then (.mk 4 0 ⟨#[]⟩ (rLoop RS.ok (rVal d) (rMany B 4096 r.2).1 (rMany B 4096 r.2).2).1, (rLoop RS.ok (rVal d) (rMany B 4096 r.2).1 (rMany B 4096 r.2).2).2)
  else (.mk r.1 0 ⟨#[]⟩ [], r.2.fail)
structure NS where
 lf : Int
 s : RS
def NS.ok (t : NS) : Bool := t.s.ok
def rNode (f : NS → List Nd × NS) (t : NS) : Nd × NS :=
 let a := rNum B 1 t.s
 let b := rNum B 8 a.2
 let c := rText B 32 b.2
 let d := rVal B 40 c.2
 let e := f ⟨t.lf - 1, d.2⟩
 (.mk a.1 (sI b.1) c.1 d.1 e.1, e.2)
def rNds : Nat → NS → List Nd × NS
 | 0, t => ([], ⟨t.lf, t.s.fail⟩)
 | d + 1, t => rLoop NS.ok (rNode B (rNds d)) (rMany B t.lf t.s).1 ⟨t.lf, (rMany B t.lf t.s).2⟩
variable {B}
theorem rNum_enc {a n k : Nat} {q : List UInt8} (h : B.drop a = leN n k ++ q) (hk : 0 < k) (hn : n < 256 ^ k) : rNum B k ⟨a, true⟩ = (n, ⟨a + k, true⟩) ∧ B.drop (a + k) = q := by
 have hl := congrArg List.length h
 rw [List.length_append, leN_len, List.length_drop] at hl
 constructor
 ·unfold rNum
  rw [if_neg (by rintro (h | h); (· exact Bool.noConfusion h); (try dsimp only at h); omega)]
  dsimp only
  rw [h, List.take_left' (leN_len n k), deN_leN k n hn]
 ·rw [← List.drop_drop, h, List.drop_left' (leN_len n k)]
theorem rMany_enc {a n : Nat} {most : Int} {q : List UInt8} (h : B.drop a = leN n 4 ++ q) (hn : n < 4294967296) (hm : (n : Int) ≤ most) : rMany B most ⟨a, true⟩ = (n, ⟨a + 4, true⟩) ∧ B.drop (a + 4) = q := by
 obtain ⟨h1, h2⟩ := rNum_enc h (by omega) (by simpa using hn)
 refine ⟨?_, h2⟩
 unfold rMany
 rw [h1]
 dsimp only
 rw [if_neg (by rintro (h | h); (· exact Bool.noConfusion h); (try dsimp only at h); omega)]
theorem bytes_of (s : ByteArray) : (⟨s.data.toList.toArray⟩ : ByteArray) = s := by cases s; simp
theorem rText_enc {a : Nat} {s : ByteArray} {most : Int} {q : List UInt8} (h : B.drop a = encS s ++ q) (hs : s.size < 4294967296) (hm : (s.size : Int) ≤ most) : rText B most ⟨a, true⟩ = (s, ⟨a + (encS s).length, true⟩) ∧ B.drop (a + (encS s).length) = q := by
 have hsl : s.data.toList.length = s.size := by rw [Array.length_toList]; rfl
 have hel : (encS s).length = 4 + s.size := by rw [encS, List.length_append, leN_len, hsl]
 rw [encS, List.append_assoc] at h
 obtain ⟨h1, h2⟩ := rMany_enc h hs hm
 have hl := congrArg List.length h2
 rw [List.length_append, hsl, List.length_drop] at hl
 constructor
 ·unfold rText
  rw [h1]
  dsimp only
  have hal : a + 4 ≤ B.length := by
   have := congrArg List.length h
   rw [List.length_append, leN_len, List.length_drop] at this
   omega
  rw [if_neg (by rintro (h | h); (· exact Bool.noConfusion h); (try dsimp only at h); omega), h2, List.take_left' hsl, bytes_of, hel, Nat.add_assoc]
 ·rw [hel, ← Nat.add_assoc, ← List.drop_drop, h2, List.drop_left' hsl]
def fitV (v : V) : Prop := v.l = [] ∧ (((v.k = 0 ∨ v.k = 1 ∨ v.k = 3) ∧ v.s = ⟨#[]⟩ ∧ -9223372036854775808 ≤ v.n ∧ v.n < 9223372036854775808) ∨ (v.k = 2 ∧ v.n = 0 ∧ v.s.size ≤ 4096))
theorem uI_nat (n : Nat) (h : n < 18446744073709551616) : uI (n : Int) = n := by unfold uI; omega
theorem rVal_enc {a d : Nat} {v : V} {q : List UInt8} (h : B.drop a = encV v ++ q) (hv : fitV v) : rVal B (d + 1) ⟨a, true⟩ = (v, ⟨a + (encV v).length, true⟩) ∧ B.drop (a + (encV v).length) = q := by
 obtain ⟨k, n, s, l⟩ := v
 obtain ⟨hl, hk⟩ := hv
 simp only [V.l, V.k, V.n, V.s] at hl hk
 subst hl
 rcases hk with ⟨hk, rfl, hn1, hn2⟩ | ⟨rfl, rfl, hs⟩
 ·obtain ⟨m, rfl, hm⟩ : ∃ m : Nat, k = m ∧ (m = 0 ∨ m = 1 ∨ m = 3) := by
   rcases hk with rfl | rfl | rfl
   ·exact ⟨0, rfl, .inl rfl⟩
   ·exact ⟨1, rfl, .inr (.inl rfl)⟩
   ·exact ⟨3, rfl, .inr (.inr rfl)⟩
  have he : encV (.mk (m : Int) n ⟨#[]⟩ []) = leN m 1 ++ encI n := by
   show leN (uI (m : Int)) 1 ++ (if (m : Int) = 2 then encS ⟨#[]⟩ else encI n) = _
   rw [if_neg (by omega), uI_nat m (by omega)]
  rw [he, List.append_assoc] at h
  obtain ⟨h1, h2⟩ := rNum_enc h (by omega) (by omega)
  obtain ⟨h3, h4⟩ := rNum_enc h2 (by omega) (by have := uI_lt n; simpa using this)
  have hel : (leN m 1 ++ encI n).length = 1 + 8 := by rw [encI, List.length_append, leN_len, leN_len]
  constructor
  ·rw [rVal, h1]
   dsimp only
   rw [if_pos (by omega), h3]
   dsimp only
   rw [sI_uI ⟨hn1, hn2⟩, he, hel, Nat.add_assoc]
  ·rw [he, hel, ← Nat.add_assoc]; exact h4
 ·have he : encV (.mk 2 0 s []) = leN 2 1 ++ encS s := by
   show leN (uI 2) 1 ++ (if (2 : Int) = 2 then encS s else encI 0) = _
   rw [if_pos rfl]; rfl
  rw [he, List.append_assoc] at h
  obtain ⟨h1, h2⟩ := rNum_enc h (by omega) (by omega)
  obtain ⟨h3, h4⟩ := rText_enc (most := 4096) h2 (by omega) (by omega)
  have hel : (leN 2 1 ++ encS s).length = 1 + (encS s).length := by rw [List.length_append, leN_len]
  constructor
  ·rw [rVal, h1]
   dsimp only
   rw [if_neg (by omega), if_pos rfl, h3]
   dsimp only
   rw [he, hel, Nat.add_assoc]
  ·rw [he, hel, ← Nat.add_assoc]; exact h4
inductive FitN : Nd → Prop where
 | mk (op ln : Int) (s : ByteArray) (v : V) (l : List Nd) (h1 : 0 ≤ op ∧ op < 256) (h2 : -9223372036854775808 ≤ ln ∧ ln < 9223372036854775808) (h3 : s.size ≤ 32) (h4 : fitV v) (h5 : ∀ y ∈ l, FitN y) : FitN (.mk op ln s v l)
theorem rLoop_enc {f : NS → List Nd × NS} {d : Nat} (hf : ∀ (l : List Nd) (a : Nat) (lf : Int) (q : List UInt8), depL l ≤ d → (∀ y ∈ l, FitN y) → (cntL l : Int) ≤ lf → cntL l < 4294967296 → B.drop a = encL l ++ q → f ⟨lf, ⟨a, true⟩⟩ = (l, ⟨lf - cntL l, ⟨a + (encL l).length, true⟩⟩) ∧ B.drop (a + (encL l).length) = q) :
  ∀ (l : List Nd) (a : Nat) (lf : Int) (q : List UInt8), depL l ≤ d + 1 → (∀ y ∈ l, FitN y) → (cntL l : Int) ≤ lf → cntL l < 4294967296 → B.drop a = encNs l ++ q → rLoop NS.ok (rNode B f) l.length ⟨lf, ⟨a, true⟩⟩ = (l, ⟨lf - cntL l, ⟨a + (encNs l).length, true⟩⟩) ∧ B.drop (a + (encNs l).length) = q
 | [], a, lf, q, _, _, _, _, h => by simp [rLoop, cntL, encNs]; simpa [encNs] using h
 | .mk op ln s v l :: r, a, lf, q, hd, hfit, hc, hc2, h => by
  obtain ⟨_, _, _, _, _, f1, f2, f3, f4, f5⟩ := hfit _ (List.mem_cons_self)
  simp only [depL, Nd.dep, cntL, Nd.cnt] at hd hc hc2
  have hcr : ∀ z : Nat, ((1 + cntL l + cntL r : Nat) : Int) = 1 + cntL l + cntL r := by omega
  rw [encNs, encN_eq] at h
  simp only [Nd.op, Nd.ln, Nd.s, Nd.v, Nd.l, List.append_assoc] at h
  obtain ⟨a1, h⟩ := rNum_enc h (by omega) (by unfold uI; omega)
  obtain ⟨a2, h⟩ := rNum_enc (k := 8) h (by omega) (by have := uI_lt ln; simpa using this)
  obtain ⟨a3, h⟩ := rText_enc (most := 32) h (by omega) (by omega)
  obtain ⟨a4, h⟩ := rVal_enc (d := 39) h f4
  obtain ⟨a5, h⟩ := hf l _ (lf - 1) _ (by omega) f5 (by omega) (by omega) h
  obtain ⟨a6, h⟩ := rLoop_enc hf r _ (lf - 1 - cntL l) q (by omega) (fun y hy => hfit y (List.mem_cons_of_mem _ hy)) (by omega) (by omega) h
  have hnode : rNode B f ⟨lf, ⟨a, true⟩⟩ = (.mk op ln s v l, ⟨lf - 1 - cntL l, ⟨a + 1 + 8 + (encS s).length + (encV v).length + (encL l).length, true⟩⟩) := by
   unfold rNode
   dsimp only
   rw [a1]
   dsimp only
   rw [a2]
   dsimp only
   rw [a3]
   dsimp only
   rw [a4]
   dsimp only
   rw [a5]
   dsimp only
   rw [sI_uI f2, show ((uI op : Nat) : Int) = op by unfold uI; omega]
  have hlen : (encNs (.mk op ln s v l :: r)).length = 1 + 8 + (encS s).length + (encV v).length + (encL l).length + (encNs r).length := by
   rw [encNs, encN_eq]
   simp only [Nd.op, Nd.ln, Nd.s, Nd.v, Nd.l, List.length_append, leN_len, encI]
   omega
  constructor
  ·rw [List.length_cons, rLoop, if_neg (by simp [NS.ok]), hnode]
   dsimp only
   rw [a6]
   simp only [cntL, Nd.cnt]
   rw [hlen]
   have e1 : lf - 1 - (cntL l : Int) - (cntL r : Int) = lf - ((1 + cntL l + cntL r : Nat) : Int) := by omega
   have e2 : a + 1 + 8 + (encS s).length + (encV v).length + (encL l).length + (encNs r).length = a + (1 + 8 + (encS s).length + (encV v).length + (encL l).length + (encNs r).length) := by omega
   rw [e1, e2]
  ·rw [hlen]
   rw [show a + (1 + 8 + (encS s).length + (encV v).length + (encL l).length + (encNs r).length) = a + 1 + 8 + (encS s).length + (encV v).length + (encL l).length + (encNs r).length by omega]
   exact h
theorem len_cnt (l : List Nd) : l.length ≤ cntL l := by
 induction l with
 | nil => simp
 | cons x r ih => rw [List.length_cons, cntL, Nd.cnt_eq]; omega
theorem rNds_enc : ∀ (d : Nat) (l : List Nd) (a : Nat) (lf : Int) (q : List UInt8), depL l ≤ d → (∀ y ∈ l, FitN y) → (cntL l : Int) ≤ lf → cntL l < 4294967296 → B.drop a = encL l ++ q → rNds B (d + 1) ⟨lf, ⟨a, true⟩⟩ = (l, ⟨lf - cntL l, ⟨a + (encL l).length, true⟩⟩) ∧ B.drop (a + (encL l).length) = q := by
 intro d
 induction d with
 | zero =>
  intro l a lf q hd _ hc hc2 h
  have hl : l = [] := by
   cases l with
   | nil => rfl
   | cons x r => simp only [depL, Nd.dep_eq] at hd; omega
  subst hl
  rw [encL, encNs, List.append_nil] at h
  obtain ⟨a1, h⟩ := rMany_enc (most := lf) h (by simp) (by simpa [cntL] using hc)
  rw [rNds, a1]
  simp only [List.length_nil, rLoop, cntL, encL, encNs, List.append_nil, leN_len]
  exact ⟨by simp, h⟩
 | succ d ih =>
  intro l a lf q hd hfit hc hc2 h
  rw [encL, List.append_assoc] at h
  have hlc := len_cnt l
  obtain ⟨a1, h⟩ := rMany_enc (most := lf) h (by omega) (by omega)
  obtain ⟨a2, h⟩ := rLoop_enc ih l _ lf q hd hfit hc hc2 h
  have hlen : (encL l).length = 4 + (encNs l).length := by rw [encL, List.length_append, leN_len]
  rw [rNds, a1]
  dsimp only
  rw [a2, hlen, ← Nat.add_assoc]
  exact ⟨rfl, h⟩
end
section
def zs (c : BitVec 32) : BitVec 32 := if c.getLsbD 0 then (c >>> 1) ^^^ 0xedb88320#32 else c >>> 1
theorem zs_xor (a b : BitVec 32) : zs (a ^^^ b) = zs a ^^^ zs b := by
 unfold zs
 have e : (a ^^^ b) >>> 1 = (a >>> 1) ^^^ (b >>> 1) := by
  apply BitVec.eq_of_getLsbD_eq; intro i hi; simp
 rw [BitVec.getLsbD_xor, e]
 generalize a >>> 1 = x
 generalize b >>> 1 = y
 cases ha : a.getLsbD 0 <;> cases hb : b.getLsbD 0
 ·rfl
 ·show x ^^^ y ^^^ 0xedb88320#32 = x ^^^ (y ^^^ 0xedb88320#32)
  ac_rfl
 ·show x ^^^ y ^^^ 0xedb88320#32 = x ^^^ 0xedb88320#32 ^^^ y
  ac_rfl
 ·show x ^^^ y = x ^^^ 0xedb88320#32 ^^^ (y ^^^ 0xedb88320#32)
  rw [show x ^^^ 0xedb88320#32 ^^^ (y ^^^ 0xedb88320#32) = (x ^^^ y) ^^^ (0xedb88320#32 ^^^ 0xedb88320#32) by ac_rfl, BitVec.xor_self, BitVec.xor_zero]
theorem zs_inj {c : BitVec 32} (h : zs c = 0#32) : c = 0#32 := by
 unfold zs at h
 cases hc : c.getLsbD 0
 ·rw [hc] at h
  apply BitVec.eq_of_getLsbD_eq
  intro i hi
  cases i with
  | zero => simpa using hc
  | succ i =>
   have := congrArg (fun x : BitVec 32 => x.getLsbD i) h
   simp [BitVec.getLsbD_ushiftRight] at this
   rw [Nat.add_comm] at this
   simpa using this
 ·rw [hc, if_pos rfl] at h
  have := congrArg (fun x : BitVec 32 => x.getLsbD 31) h
  simp [BitVec.getLsbD_ushiftRight] at this
def it (f : BitVec 32 → BitVec 32) : Nat → BitVec 32 → BitVec 32
 | 0, c => c
 | n + 1, c => f (it f n c)
theorem it_xor (n : Nat) (a b : BitVec 32) : it zs n (a ^^^ b) = it zs n a ^^^ it zs n b := by
 induction n with
 | zero => rfl
 | succ n ih => simp only [it, ih, zs_xor]
theorem it_inj (n : Nat) {c : BitVec 32} (h : it zs n c = 0#32) : c = 0#32 := by
 induction n with
 | zero => exact h
 | succ n ih => exact ih (zs_inj h)
theorem it_add (m n : Nat) (c : BitVec 32) : it zs (m + n) c = it zs m (it zs n c) := by
 induction m with
 | zero => simp [it]
 | succ m ih => rw [Nat.add_right_comm]; simp only [it, ih]
theorem zs_zero : zs 0#32 = 0#32 := by decide
theorem it_zero (n : Nat) : it zs n 0#32 = 0#32 := by
 induction n with
 | zero => rfl
 | succ n ih => simp only [it, ih, zs_zero]
theorem xor_eq_zero {a b : BitVec 32} (h : a ^^^ b = 0#32) : a = b := by
 have : (a ^^^ b) ^^^ b = 0#32 ^^^ b := by rw [h]
 simpa [BitVec.xor_assoc] using this
theorem it_eq (n : Nat) {a b : BitVec 32} (h : it zs n a = it zs n b) : a = b := by
 apply xor_eq_zero
 apply it_inj n
 rw [it_xor, h, BitVec.xor_self]
theorem it_one_shift : ∀ j, j < 32 → it zs j (1#32 <<< j) = 1#32 := by decide +kernel
def b1 (b : Bool) : BitVec 32 := if b then 1#32 else 0#32
theorem b1_xor (a b : Bool) : b1 (a ^^ b) = b1 a ^^^ b1 b := by cases a <;> cases b <;> rfl
def S (c : BitVec 32) (e : Nat → Bool) : Nat → BitVec 32
 | 0 => c
 | m + 1 => zs (S c e m ^^^ b1 (e m))
theorem S_xor (c d : BitVec 32) (e f : Nat → Bool) (m : Nat) : S (c ^^^ d) (fun j => e j ^^ f j) m = S c e m ^^^ S d f m := by
 induction m with
 | zero => rfl
 | succ m ih =>
  simp only [S, ih, b1_xor, ← zs_xor]
  congr 1
  simp only [BitVec.xor_assoc]
  congr 1
  rw [← BitVec.xor_assoc, BitVec.xor_comm _ (b1 (e m)), BitVec.xor_assoc]
theorem S_congr {c : BitVec 32} {e f : Nat → Bool} {m : Nat} (h : ∀ j, j < m → e j = f j) : S c e m = S c f m := by
 induction m with
 | zero => rfl
 | succ m ih => simp only [S, ih (fun j hj => h j (by omega)), h m (by omega)]
theorem S_rest {c : BitVec 32} {e : Nat → Bool} {k : Nat} (h : ∀ j, k ≤ j → e j = false) (m : Nat) : S c e (k + m) = it zs m (S c e k) := by
 induction m with
 | zero => rfl
 | succ m ih => rw [← Nat.add_assoc]; simp [S, it, ih, h (k + m) (by omega), b1]
theorem S_zero {e : Nat → Bool} {k : Nat} (h : ∀ j, j < k → e j = false) : S 0#32 e k = 0#32 := by
 induction k with
 | zero => rfl
 | succ k ih => simp [S, ih (fun j hj => h j (by omega)), h k (by omega), b1, zs_zero]
def wd (e : Nat → Bool) : Nat → BitVec 32
 | 0 => 0#32
 | j + 1 => wd e j ^^^ (if e j then 1#32 <<< j else 0#32)
theorem S_word {e : Nat → Bool} (k : Nat) (h : ∀ j, j < k → e j = false) : ∀ j, j ≤ 32 → S 0#32 e (k + j) = it zs j (wd (fun i => e (k + i)) j)
 | 0, _ => S_zero h
 | j + 1, hj => by
  have h1 := S_word k h j (by omega)
  rw [← Nat.add_assoc]
  simp only [S, h1, wd, it_xor, it]
  congr 1
  have h2 := it_one_shift j (by omega)
  congr 1
  by_cases he : e (k + j) = true
  ·rw [if_pos he, h2, he]; rfl
  ·rw [if_neg he, it_zero, Bool.eq_false_iff.2 he]; rfl
theorem wd_bit (e : Nat → Bool) : ∀ j, j ≤ 32 → ∀ i, i < 32 → (wd e j).getLsbD i = (decide (i < j) && e i)
 | 0, _, i, _ => by simp [wd]
 | j + 1, hj, i, hi => by
  have h1 := wd_bit e j (by omega) i hi
  simp only [wd, BitVec.getLsbD_xor, h1]
  have h2 : (if e j then 1#32 <<< j else 0#32).getLsbD i = (decide (i = j) && e j) := by
   cases he : e j
   ·simp
   ·simp only [if_true, Bool.and_true]
    rw [BitVec.getLsbD_shiftLeft]
    by_cases hij : i = j
    ·subst hij; simp [hi]
    ·simp [hij, hi]; omega
  rw [h2]
  by_cases hij : i = j
  ·subst hij; simp
  ·rcases Nat.lt_or_gt_of_ne hij with h | h
   ·simp [hij, h, show i < j + 1 by omega]
   ·simp [hij, show ¬ i < j by omega, show ¬ i < j + 1 by omega]
theorem S_burst {e : Nat → Bool} (k n : Nat) (h1 : ∀ j, j < k → e j = false) (h2 : ∀ j, k + 32 ≤ j ∨ n ≤ j → e j = false) (h : S 0#32 e n = 0#32) : ∀ j, e j = false := by
 have hS : S 0#32 e (n + (k + 32)) = 0#32 := by
  rw [S_rest (fun j hj => h2 j (.inr hj)), h, it_zero]
 rw [show n + (k + 32) = (k + 32) + n by omega, S_rest (fun j hj => h2 j (.inl hj)), S_word k h1 32 (Nat.le_refl _)] at hS
 have hw := it_inj _ (it_inj _ hS)
 intro j
 by_cases hj : j < k
 ·exact h1 j hj
 ·by_cases hj2 : k + 32 ≤ j
  ·exact h2 j (.inl hj2)
  ·have := wd_bit (fun i => e (k + i)) 32 (Nat.le_refl _) (j - k) (by omega)
   rw [hw] at this
   simp only [BitVec.getLsbD_zero] at this
   rw [show k + (j - k) = j by omega] at this
   simpa [show j - k < 32 by omega] using this.symm
def gN (x : Nat) : Nat := if x % 2 == 1 then (x / 2) ^^^ 0xedb88320 else x / 2
def its : Nat → Nat → List Nat
 | 0, _ => []
 | n + 1, x => (x / 2) :: its n (gN x)
def dst : Nat → List Nat → Bool
 | 0, l => match l with | [] => true | [_] => true | _ => false
 | k + 1, l => match l with | [] => true | [_] => true | _ => dst k (l.filter fun x => Nat.testBit x k) && dst k (l.filter fun x => !Nat.testBit x k)
end
section
open Go.RowKit
def tabN (k : Nat) : Int := (it zs 4 (BitVec.ofNat 32 k)).toNat
def tabA (n : Nat) : Array Value := ((List.range 16).map fun j => if j < n then Value.int .u32 (tabN j) else .int .u32 0).toArray
theorem tabA_zero : #[.int .u32 0, .int .u32 0, .int .u32 0, .int .u32 0, .int .u32 0, .int .u32 0, .int .u32 0, .int .u32 0, .int .u32 0, .int .u32 0, .int .u32 0, .int .u32 0, .int .u32 0, .int .u32 0, .int .u32 0, .int .u32 0] = tabA 0 := by rfl
@[simp] theorem tabA_size (n : Nat) : (tabA n).size = 16 := by simp [tabA]
theorem tabA_get (n j : Nat) (h : j < 16) : (tabA n)[j]? = some (if j < n then Value.int .u32 (tabN j) else .int .u32 0) := by
 simp [tabA, h]
theorem tabA_set (k : Nat) (h : k < 16) : (tabA k).setIfInBounds k (.int .u32 (tabN k)) = tabA (k + 1) := by
 apply Array.ext_getElem?
 intro i
 by_cases hi : i < 16
 ·rw [Array.getElem?_setIfInBounds, tabA_get _ i hi, tabA_get _ i hi]
  by_cases hk : k = i
  ·subst hk; simp [h]
  ·rw [if_neg hk]
   congr 1
   by_cases h1 : i < k
   ·rw [if_pos h1, if_pos (by omega)]
   ·rw [if_neg h1, if_neg (by omega)]
 ·rw [Array.getElem?_eq_none (by simp; omega), Array.getElem?_eq_none (by simp; omega)]
theorem tabA_one (n : Nat) : (tabA n).all (·.oneCell') = true := by
 rw [Array.all_eq_true]
 intro i hi
 have hi' : i < 16 := by simpa using hi
 have := tabA_get n i hi'
 rw [Array.getElem?_eq_getElem hi] at this
 simp only [Option.some.injEq] at this
 rw [this]
 split <;> rfl
theorem u_xor (a b : BitVec 32) : Go.bits .xor .u32 (a.toNat : Int) (b.toNat : Int) = ((a ^^^ b).toNat : Int) := by
 rw [u32_xor_nat _ _ a.isLt b.isLt, BitVec.toNat_xor]
theorem u_and (a b : BitVec 32) : Go.bits .and .u32 (a.toNat : Int) (b.toNat : Int) = ((a &&& b).toNat : Int) := by
 rw [u32_and_nat _ _ a.isLt b.isLt, BitVec.toNat_and]
theorem u_shr (x : BitVec 32) (k : Nat) : (x.toNat : Int) / (2 ^ k : Nat) = ((x >>> k).toNat : Int) := by
 rw [BitVec.toNat_ushiftRight, Nat.shiftRight_eq_div_pow]
 simp
theorem half_step (x : BitVec 32) : bits BinOp.xor IntKind.u32 ((x.toNat : Int) / 2) (bits BinOp.and IntKind.u32 (-bits BinOp.and IntKind.u32 (x.toNat : Int) 1 % 4294967296) 3988292384) = ((zs x).toNat : Int) := by
 have e1 := u_and x 1#32
 have e2 := u_shr x 1
 rw [show ((1#32).toNat : Int) = 1 by decide] at e1
 rw [show ((2 ^ 1 : Nat) : Int) = 2 by decide] at e2
 rw [e1, e2]
 unfold zs
 by_cases hb : x.getLsbD 0 = true
 ·have h1 : x &&& 1#32 = 1#32 := by
   apply BitVec.eq_of_getLsbD_eq
   intro i hi
   cases i with
   | zero => simp only [BitVec.getLsbD_and, hb]; rfl
   | succ i => simp
  rw [h1, if_pos hb]
  have e3 := u_and (4294967295#32) (0xedb88320#32)
  have e4 := u_xor (x >>> 1) (0xedb88320#32)
  rw [← e4]
  congr 1
 ·have h1 : x &&& 1#32 = 0#32 := by
   apply BitVec.eq_of_getLsbD_eq
   intro i hi
   cases i with
   | zero => simp only [BitVec.getLsbD_and, Bool.eq_false_iff.2 hb]; rfl
   | succ i => simp
  rw [h1, if_neg hb]
  have e4 := u_xor (x >>> 1) (0#32)
  rw [BitVec.xor_zero] at e4
  rw [← e4]
  congr 1
theorem shl_step (y : BitVec 32) (j : Nat) (hy : ∀ i, 31 - j ≤ i → y.getLsbD i = false) : zs (y <<< (j + 1)) = y <<< j := by
 have h0 : (y <<< (j + 1)).getLsbD 0 = false := by rw [BitVec.getLsbD_shiftLeft]; simp
 unfold zs
 rw [h0]
 apply BitVec.eq_of_getLsbD_eq
 intro i hi
 simp only [Bool.false_eq_true, if_false, BitVec.getLsbD_ushiftRight, BitVec.getLsbD_shiftLeft]
 by_cases hij : i < j
 ·simp [hij, show 1 + i < j + 1 by omega]
 ·by_cases h31 : i = 31
  ·subst h31
   rw [hy (31 - j) (by omega)]
   simp
  ·simp [hij, show ¬ (1 + i < j + 1) by omega, hi, show 1 + i < 32 by omega, show 1 + i - (j + 1) = i - j by omega]
theorem tab_step (x : BitVec 32) : bits BinOp.xor IntKind.u32 ((x.toNat : Int) / 16) (tabN (x.toNat % 16)) = ((it zs 4 x).toNat : Int) := by
 have e2 := u_shr x 4
 rw [show ((2 ^ 4 : Nat) : Int) = 16 by decide] at e2
 rw [e2]
 unfold tabN
 rw [u_xor]
 have hx : x = (x >>> 4) <<< 4 ^^^ BitVec.ofNat 32 (x.toNat % 16) := by
  apply BitVec.eq_of_getLsbD_eq
  intro i hi
  rw [BitVec.getLsbD_xor, BitVec.getLsbD_shiftLeft, BitVec.getLsbD_ushiftRight]
  have h16 : (BitVec.ofNat 32 (x.toNat % 16)).getLsbD i = (decide (i < 4) && x.getLsbD i) := by
   rw [BitVec.getLsbD_ofNat, show 16 = 2 ^ 4 from rfl, Nat.testBit_mod_two_pow]
   simp [hi]
   rfl
  rw [h16]
  by_cases h4 : i < 4
  ·simp [h4]
  ·simp [h4, hi]
   rw [show 4 + (i - 4) = i by omega]
   exact (BitVec.getLsbD_eq_getElem hi).symm
 have hs : it zs 4 ((x >>> 4) <<< 4) = x >>> 4 := by
  have hy : ∀ i, 28 ≤ i → (x >>> 4).getLsbD i = false := fun i hi => by rw [BitVec.getLsbD_ushiftRight]; exact BitVec.getLsbD_of_ge _ _ (by omega)
  generalize x >>> 4 = y at hy
  show zs (zs (zs (zs (y <<< 4)))) = y
  rw [shl_step y 3 (fun i hi => hy i (by omega)), shl_step y 2 (fun i hi => hy i (by omega)), shl_step y 1 (fun i hi => hy i (by omega)), shl_step y 0 (fun i hi => hy i (by omega))]
  simp
 conv => rhs; rw [hx, it_xor, hs]
theorem halves_any (w : World) : Calls Tryz.prog 83 #[] w fun e w' => e = .returned (.agg (tabA 16)) ∧ Fr (fun _ => False) w w' := by
 go_enter Tryz.func83, Tryz.ntmps83
 go_wp2_with fail
 rw [tabA_zero]
 have b0 := ((Fr.refl (fun _ => False) (w.alloc (.cells (tabA 0) 133))).alloc (.cells (tabA 0) 133)).heap (heap_alloc_new w (.cells (tabA 0) 133)) not_false
 have b1 := heap_alloc2_new w (.cells (tabA 0) 133) (.cells (tabA 0) 133)
 have bf := ((Fr.refl (fun _ => False) w).alloc (.cells (tabA 0) 133)).alloc (.cells (tabA 0) 133)
 generalize (w.alloc (.cells (tabA 0) 133)).alloc (.cells (tabA 0) 133) = W at *
 have H0 := hid b0; have H1 := hid b1; have HF := hid bf
 clear b0 b1 bf
 go_loopw [4] (fun i wr => ∃ k : Nat, k ≤ 16 ∧ i = .int .i64 k ∧ Hid (wr.heap[w.heap.size]? = some (.cells (tabA 0) 133 (0, 0))) ∧ Hid (wr.heap[w.heap.size + 1]? = some (.cells (tabA k) 133 (0, 0))) ∧ Fr (fun _ => False) w wr) (fun i _ => 16 - (intOf i).toNat)
 case atStart => exact ⟨0, by omega, rfl, H0, H1, HF.out⟩
 case round =>
  clear H0 H1 HF
  obtain ⟨k, hk, rfl, h0, h1, hf⟩ := hrel
  by_cases hlt : k < 16
  ·have HF := hid hf
   clear hf
   go_wp2_with fail
   go_loop [3, 9] (fun x i => ∃ j : Nat, j ≤ 4 ∧ i = .int .i64 j ∧ x = .int .u32 ((it zs j (BitVec.ofNat 32 k)).toNat : Nat)) (fun x i => 4 - (intOf i).toNat)
   case atStart => exact ⟨0, by omega, rfl, by simp [it]; omega⟩
   case round =>
    obtain ⟨j, hj, rfl, rfl⟩ := hrel
    by_cases hlt2 : j < 4
    ·have hj1 : it zs (j + 1) (BitVec.ofNat 32 k) = zs (it zs j (BitVec.ofNat 32 k)) := rfl
     generalize it zs j (BitVec.ofNat 32 k) = x at *
     have HJ := hid hj1
     clear hj1
     go_wp2_with fail
     go_round
     case rel =>
      refine ⟨j + 1, by omega, by go_num, ?_⟩
      rw [HJ.out, half_step]
     case measure => simp [intOf]; omega
    ·obtain rfl : j = 4 := by omega
     have hc : wr.cell? ⟨w.heap.size + 1, k, none⟩ = some (.int .u32 0) := by rw [cell_of_row _ _ _ _ _ _ h1.out, tabA_get _ _ hlt, if_neg (by omega)]
     have hz : wr.frozen? ⟨w.heap.size + 1, k, none⟩ = false := frozen_of_row _ _ _ _ _ h1.out
     go_wp2_with fail
     go_roundw
     case rel => exact ⟨k + 1, by omega, by go_num, hid ((heap_setCell_other _ _ _ _ (by simp)).trans h0.out), hid (by
      have := setCell_row k (.int .u32 (tabN k)) h1.out
      rw [tabA_set k hlt] at this
      exact this), HF.out.setCell (.inr (by simp)) _⟩
     case measure => simp [intOf]; omega
  ·obtain rfl : k = 16 := by omega
   have hlt' : decide ((16:Int) < 16) = false := by decide
   go_wp2_with (first | (refine wpList_load_row rfl 133 (.tmp 1) rfl (w.heap.size + 1) rfl 133 (tabA 16) (0, 0) _ h1.out Tryz.underlying133 rfl (by rw [tabA_size]; kernel_rfl) ?_) | (refine wpList_store_row rfl 133 (.tmp 0) (.tmp 23) rfl w.heap.size (tabA 16) rfl rfl 133 (tabA 0) h0.out (by rw [tabA_size]; kernel_rfl) (by simp) (tabA_one _) ?_))
   refine bodyPost_ret (results_cell_row rfl _ _ w.heap.size _ _ _ _ rfl (setRow_block h0.out) Tryz.underlying133 rfl (by rw [tabA_size]; kernel_rfl)) rfl ?_
   exact ⟨rfl, hf.setRow (.inr (Nat.le_refl _)) _⟩
def crcB (c : BitVec 32) (b : UInt8) : BitVec 32 := it zs 8 (c ^^^ BitVec.ofNat 32 b.toNat)
def crc (c : BitVec 32) (l : List UInt8) : BitVec 32 := l.foldl crcB c
def sumB (l : List UInt8) : BitVec 32 := ~~~ (crc 4294967295#32 l)
theorem crc_take (c : BitVec 32) (l : List UInt8) (k : Nat) (h : k < l.length) : crc c (l.take (k + 1)) = crcB (crc c (l.take k)) (l.getD k 0) := by
 rw [take_snoc l k 0 h]
 simp only [crc, List.foldl_append, List.foldl_cons, List.foldl_nil]
theorem u_byte (b : UInt8) : ((b.toNat : Nat) : Int) = ((BitVec.ofNat 32 b.toNat).toNat : Int) := by
 have := b.toNat_lt
 rw [BitVec.toNat_ofNat, Nat.mod_eq_of_lt (by omega)]
theorem u_and15 (y : BitVec 32) : bits BinOp.and IntKind.u32 (y.toNat : Int) 15 = ((y.toNat % 16 : Nat) : Int) := by
 have h := u_and y 15#32
 rw [show ((15#32).toNat : Int) = 15 by decide] at h
 rw [h, BitVec.toNat_and]
 congr 1
 rw [show (15#32).toNat = 2 ^ 4 - 1 by decide, Nat.and_two_pow_sub_one_eq_mod]
theorem u_not (x : BitVec 32) : bits BinOp.xor IntKind.u32 IntKind.u32.max (x.toNat : Int) = ((~~~x).toNat : Int) := by
 have h := u_xor (BitVec.allOnes 32) x
 rw [BitVec.allOnes_xor] at h
 exact h
theorem crc_two (x : BitVec 32) (b : UInt8) : crcB x b = it zs 4 (it zs 4 (x ^^^ BitVec.ofNat 32 b.toNat)) := by
 unfold crcB
 rw [← it_add]
theorem tab_cell {W : World} {g t : Nat} {fz : Nat × Nat} (h : W.heap[g]? = some (.cells (tabA 16) t fz)) (y : BitVec 32) : W.cell? ⟨g, y.toNat % 16, none⟩ = some (.int .u32 (tabN (y.toNat % 16))) := by
 rw [cell_of_row _ _ _ _ _ _ h, tabA_get _ _ (by omega), if_pos (by omega)]
theorem sum_any (D : Nat → Prop) (v : Value) (l : List UInt8) (w : World) (hB : Bs D w v l) :
  Calls Tryz.prog 55 #[v] w fun e w' => e = .returned (.int .u32 ((sumB l).toNat : Nat)) ∧ Fr (fun _ => False) w w' := by
 obtain ⟨a, c, rfl, hlc, hcm, hk⟩ := hB
 have hm' : l.length ≤ 9223372036854775807 := Nat.le_trans hlc hcm
 have HK := hid hk
 clear hk
 go_enter Tryz.func55, Tryz.ntmps55
 go_wp2_with fail
 refine (halves_any _).mono ?_
 rintro e w1 ⟨rfl, hf1⟩
 have hr := heap_alloc_new w1 (.cells (tabA 0) 133)
 have hW := (hf1.alloc (.cells (tabA 0) 133)).setRow (.inr (show w.heap.size ≤ w1.heap.size from hf1.size)) (tabA 16)
 have hrow := setRow_block (cs := tabA 16) hr
 have HR := hid hr; have HW := hid hW; have HRow := hid hrow
 clear hf1 hr hW hrow
 rw [← tabA_zero] at HR HW HRow
 go_wp2_with (refine wpList_store_row rfl 133 (.tmp 3) (.tmp 7) rfl w1.heap.size (tabA 16) rfl rfl 133 _ HR.out (by rw [tabA_size]; kernel_rfl) (by simp) (tabA_one _) ?_)
 generalize (w1.alloc (.cells _ 133)).setRow w1.heap.size (tabA 16) = W at *
 clear HR
 generalize w1.heap.size = g at *
 go_loop [4, 10] (fun x i => ∃ k : Nat, k ≤ l.length ∧ i = .int .i64 k ∧ x = .int .u32 ((crc 4294967295#32 (l.take k)).toNat : Nat)) (fun _ i => l.length - (intOf i).toNat)
 case atStart => exact ⟨0, by omega, rfl, rfl⟩
 case round =>
  obtain ⟨k, hkl, rfl, rfl⟩ := hrel
  by_cases hlt : k < l.length
  ·have hst := crc_take 4294967295#32 l k hlt
   obtain ⟨b, o, rfl, hDb, hcw⟩ := HK.out k hlt
   have hcr := HW.out.cell hcw not_false
   have hby := u_byte (l.getD k 0)
   have hb1 := (l.getD k 0).toNat_lt
   generalize l.getD k 0 = ch at *
   generalize crc 4294967295#32 (l.take k) = x at *
   have e0 : bits BinOp.xor IntKind.u32 (x.toNat : Int) (ch.toNat : Int) = ((x ^^^ BitVec.ofNat 32 ch.toNat).toNat : Int) := by rw [hby, u_xor]
   clear hby hcw
   have HS := hid hst
   clear hst
   generalize hy : x ^^^ BitVec.ofNat 32 ch.toNat = y at *
   have HY := hid hy
   clear hy
   have a1 := u_and15 y
   have l1 := tab_cell HRow.out y
   have t1 := tab_step y
   have hz : it zs 4 y = it zs 4 y := rfl
   generalize hz : it zs 4 y = z at t1
   have HZ := hid hz
   clear hz
   have m1 : y.toNat % 16 < 16 := Nat.mod_lt _ (by decide)
   have m2 : z.toNat % 16 < 16 := Nat.mod_lt _ (by decide)
   have a2 := u_and15 z
   have l2 := tab_cell HRow.out z
   have t2 := tab_step z
   generalize y.toNat % 16 = q1 at *
   generalize z.toNat % 16 = q2 at *
   go_wp2_with fail
   go_round
   case rel =>
    refine ⟨k + 1, by omega, by go_num, ?_⟩
    rw [HS.out, crc_two, HY.out, HZ.out]
   case measure => simp [intOf]; omega
  ·obtain rfl : k = l.length := by omega
   rw [List.take_length]
   have hs : bits BinOp.xor IntKind.u32 IntKind.u32.max ((crc 4294967295#32 l).toNat : Int) = ((sumB l).toNat : Int) := u_not _
   have hsg : IntKind.u32.signed = false := rfl
   generalize crc 4294967295#32 l = x at *
   generalize hy : sumB l = y at hs
   have HY := hid hy
   clear hy
   go_wp2_with fail
   go_ret
   exact ⟨ret_int (by rw [HY.out]), HW.out⟩
end
section
open Go.RowKit
def le4 (n : Nat) : List UInt8 := [UInt8.ofNat n, UInt8.ofNat (n / 256), UInt8.ofNat (n / 65536), UInt8.ofNat (n / 16777216)]
def n4 (l : List UInt8) : Nat := (l.getD 0 0).toNat + 256 * (l.getD 1 0).toNat + 65536 * (l.getD 2 0).toNat + 16777216 * (l.getD 3 0).toNat
@[simp] theorem le4_length (n : Nat) : (le4 n).length = 4 := rfl
theorem n4_lt (l : List UInt8) : n4 l < 4294967296 := by
 have h0 := (l.getD 0 0).toNat_lt
 have h1 := (l.getD 1 0).toNat_lt
 have h2 := (l.getD 2 0).toNat_lt
 have h3 := (l.getD 3 0).toNat_lt
 unfold n4
 omega
theorem n4_le4 (n : Nat) (h : n < 4294967296) : n4 (le4 n) = n := by
 simp [n4, le4]
 omega
theorem join4 {x0 x1 x2 x3 : Nat} (b0 : x0 < 2 ^ 8) (b1 : x1 < 2 ^ 8) (b2 : x2 < 2 ^ 8) (b3 : x3 < 2 ^ 8) :
  bits BinOp.or IntKind.u32 (bits BinOp.or IntKind.u32 (bits BinOp.or IntKind.u32 (x0 : Int) ((x1 : Int) * 256)) ((x2 : Int) * 65536)) ((x3 : Int) * 16777216) = ((x0 + 256 * x1 + 65536 * x2 + 16777216 * x3 : Nat) : Int) := by
 have h : ∀ (i a b : Nat), a < 2 ^ i → a ||| b * 2 ^ i = a + b * 2 ^ i := fun i a b ha => by
  rw [Nat.or_comm, Nat.mul_comm, ← Nat.two_pow_add_eq_or_of_lt ha, Nat.add_comm]
 have h1 := h 8 x0 x1 b0
 have h2 := h 16 (x0 + x1 * 2 ^ 8) x2 (by omega)
 have h3 := h 24 (x0 + x1 * 2 ^ 8 + x2 * 2 ^ 16) x3 (by omega)
 rw [show (x1 : Int) * 256 = ((x1 * 2 ^ 8 : Nat) : Int) by omega, show (x2 : Int) * 65536 = ((x2 * 2 ^ 16 : Nat) : Int) by omega, show (x3 : Int) * 16777216 = ((x3 * 2 ^ 24 : Nat) : Int) by omega]
 rw [u32_or_nat _ _ (by omega) (by omega), h1, u32_or_nat _ _ (by omega) (by omega), h2, u32_or_nat _ _ (by omega) (by omega), h3]
 omega
theorem fnumber_any (D : Nat → Prop) (v : Value) (l : List UInt8) (w : World) (hB : Bs D w v l) (h4 : 4 ≤ l.length) :
  Calls Tryz.prog 84 #[v] w fun e w' => e = .returned (.int .u32 (n4 l : Nat)) ∧ ∃ n, w.drewN n = w' := by
 obtain ⟨a, c, rfl, hlc, hcm, hk⟩ := hB
 have hm' : l.length ≤ 9223372036854775807 := Nat.le_trans hlc hcm
 obtain ⟨b, o, rfl, _, c0⟩ := hk 0 (by omega)
 have cx : ∀ k, k < l.length → w.cell? ⟨b, o + k, none⟩ = some (.int .u8 (l.getD k 0).toNat) := fun k hk' => by
  obtain ⟨b', o', e, _, hc⟩ := hk k hk'
  simp only [Option.some.injEq, Addr.mk.injEq] at e
  obtain ⟨rfl, rfl, _⟩ := e
  exact hc
 have c1 := cx 1 (by omega)
 have c2 := cx 2 (by omega)
 have c3 := cx 3 (by omega)
 clear cx hk
 rw [Nat.add_zero] at c0
 have hn : n4 l = (l.getD 0 0).toNat + 256 * (l.getD 1 0).toNat + 65536 * (l.getD 2 0).toNat + 16777216 * (l.getD 3 0).toNat := rfl
 have b0 := (l.getD 0 0).toNat_lt
 have b1 := (l.getD 1 0).toNat_lt
 have b2 := (l.getD 2 0).toNat_lt
 have b3 := (l.getD 3 0).toNat_lt
 generalize (l.getD 0 0).toNat = x0 at *
 generalize (l.getD 1 0).toNat = x1 at *
 generalize (l.getD 2 0).toNat = x2 at *
 generalize (l.getD 3 0).toNat = x3 at *
 have HN := hid hn
 clear hn
 go_enter Tryz.func84, Tryz.ntmps84
 go_wp2_with fail
 go_quiet (fail)
 go_wp2
 go_ret
 refine ⟨ret_int ?_, _, rfl⟩
 rw [HN.out]
 exact join4 b0 b1 b2 b3
abbrev OB (base : Nat) (w : World) (v : Value) (l : List UInt8) : Prop := w.ownsRow base 5 1 v l.length (bV l)
theorem Tryz.info_byte : (Tryz.prog.info? 5).map (fun i => (i.zero, i.size, i.bytes)) = some (some (.int .u8 0), 1, 1) := by kernel_rfl
theorem OB.bs {base : Nat} {w : World} {v : Value} {l : List UInt8} (h : OB base w v l) : Bs (fun k => base ≤ k) w v l :=
 (Bs.own h).mono fun k _ hk => (h.lt k hk).1
theorem OB.fr {S : Nat → Prop} {a w w' : World} {v : Value} {l : List UInt8} (hf : Fr S a w) (h : OB a.heap.size w v l) (hg : Fr (fun k => some k = v.ownBlock) w w') : Fr S a w' :=
 hf.trans hg (fun _ _ h => h) fun k hk e => absurd (h.lt k e.symm).1 (by omega)
theorem le4_bV (n : Nat) (hn : n < 4294967296) : bV (le4 n) = [.int .u8 ((n : Int) % 256), .int .u8 ((n : Int) / 256 % 256), .int .u8 ((n : Int) / 65536 % 256), .int .u8 ((n : Int) / 16777216)] := by
 simp [bV, le4]
 omega
theorem little_any (base : Nat) (v : Value) (l : List UInt8) (n : Nat) (w : World) (h : OB base w v l) (hn : n < 4294967296) (hl : l.length ≤ 1073741824) (hb : base ≤ w.heap.size) :
  Calls Tryz.prog 53 #[v, .int .u32 n] w fun e w' => ∃ v', e = .returned v' ∧ OB base w' v' (l ++ le4 n) ∧ Fr (fun k => some k = v.ownBlock) w w' := by
 have hq := le4_bV n hn
 have hc : ∀ j, j < 4 → ∃ b o, (some ⟨w.heap.size, 0, none⟩ : Option Addr) = some ⟨b, o, none⟩ ∧ (w.alloc (.cells #[.int .u8 ((n : Int) % 256), .int .u8 ((n : Int) / 256 % 256), .int .u8 ((n : Int) / 65536 % 256), .int .u8 ((n : Int) / 16777216)] 5)).cell? ⟨b, o + j, none⟩ = (bV (le4 n))[j]? := by
  intro j hj
  refine ⟨_, _, rfl, ?_⟩
  rw [hq, Nat.zero_add, cell_of_row _ _ _ _ _ _ (heap_alloc_new w _)]
  simp
 have ho : (w.alloc (.cells #[.int .u8 ((n : Int) % 256), .int .u8 ((n : Int) / 256 % 256), .int .u8 ((n : Int) / 65536 % 256), .int .u8 ((n : Int) / 16777216)] 5)).ownsRow base 5 1 v l.length (bV l) := h.alloc _
 have hF := (Fr.refl (fun k => some k = v.ownBlock) w).alloc (.cells #[.int .u8 ((n : Int) % 256), .int .u8 ((n : Int) / 256 % 256), .int .u8 ((n : Int) / 65536 % 256), .int .u8 ((n : Int) / 16777216)] 5)
 have h1 : ∀ u ∈ bV (le4 n), u.oneCell' = true := by
  intro u hu
  simp only [bV, List.mem_map] at hu
  obtain ⟨_, _, rfl⟩ := hu
  rfl
 have HC := hid hc
 have HO := hid ho
 have HF := hid hF
 have H1 := hid h1
 clear hq h hc ho hF h1
 go_enter Tryz.func53, Tryz.ntmps53
 go_wp2_with (at_builtin; go_must (refine wpList_appendN rfl (.tmp 5) (.tmp 17) 30 rfl 5 (.int .u8 0) 1 Tryz.underlying30 Tryz.info_byte rfl v rfl base l.length (bV l) HO.out (some ⟨w.heap.size, 0, none⟩) 4 4 (bV (le4 n)) rfl (by simp) (fun h => by cases h) HC.out H1.out (by omega) (by decide) (by simp; omega) ?_))
 intro v' w' ho' hf' _
 have HR := hid (HF.out.trans' hf')
 have HO' := hid ho'
 clear ho' hf'
 go_wp2
 go_ret
 refine ⟨v', rfl, ?_, HR.out⟩
 have := HO'.out
 simpa [OB, bV] using this
end
end Go.Proofs.YtbegahbagnflnaaGreatDoor
