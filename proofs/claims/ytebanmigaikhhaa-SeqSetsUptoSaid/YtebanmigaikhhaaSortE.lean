/- stableCmpFunc over at most 40 values. -/
import Derived.Test.YtebanmigaikhhaaSortD
namespace Go.Proofs.Ytebanmigaikhhaa
open Go.RowKit Go.Sort

theorem sorted_congr {α : Type} [Inhabited α] {lt : α → α → Bool} {a b : Nat} {d e : Array α} (h : SortedIn lt a b d) (he : ∀ x, a ≤ x → x < b → e[x]! = d[x]!) : SortedIn lt a b e := fun i j p1 p2 p3 => by
  rw [he i p1 (by omega), he j (by omega) p3]
  exact h i j p1 p2 p3
theorem sorted_less {α : Type} [Inhabited α] {lt : α → α → Bool} {a b a' b' : Nat} {d : Array α} (h : SortedIn lt a b d) (ha : a ≤ a') (hb : b' ≤ b) : SortedIn lt a' b' d := fun i j p1 p2 p3 => h i j (by omega) p2 (by omega)
set_option maxRecDepth 100000 in
set_option maxHeartbeats 6400000 in
theorem stable_any (w0 W : World) (base g n c : Nat) (d : Array PV) (hg : g < w0.heap.size) (h : St w0 base g n c d W) (hn : n ≤ 40) :
    Calls Try.prog 63 #[.slice (some ⟨g, 0, none⟩) n c, .int .i64 n, .func (.func 56) #[] #[]] W fun e W' => e = .returned (.tuple #[]) ∧ ∃ d', St w0 base g n c d' W' ∧ PermIn 0 n d d' ∧ SortedIn ltP 0 n d' := by
  have HH := hid h
  have HSZ := hid h.sz; have HG := hid hg
  have hn1 : n ≤ 1099511627776 := by omega
  clear h hg
  go_enter Try.func63, Try.ntmps63
  go_wp2_with fail
  go_loopw [7, 8] (fun av bv wr => ∃ (a b : Nat) (dk : Array PV), Hid (b = a + 20) ∧ Hid (a = 0 ∨ a = 20 ∨ a = 40) ∧ a ≤ n ∧ b ≤ 1000 ∧ av = .int .i64 a ∧ bv = .int .i64 b ∧ Hid (St w0 base g n c dk wr) ∧ Hid (PermIn 0 n d dk) ∧ Hid (SortedIn ltP 0 (min 20 a) dk) ∧ Hid (SortedIn ltP 20 a dk)) (fun av _ _ => n - (intOf av).toNat)
  case atStart => exact ⟨0, 20, d, hid rfl, hid (.inl rfl), by omega, by omega, rfl, rfl, HH, hid (permIn_refl _ _ _), hid (fun i j h1 h2 h3 => by omega), hid (fun i j h1 h2 h3 => by omega)⟩
  case round =>
    obtain ⟨a, b, dk, HB, HA, han, hb1, rfl, rfl, HS, HP, HO1, HO2⟩ := hrel
    by_cases hlt : b ≤ n
    · have hlt' : (b : Int) ≤ n := by omega
      have w1 : IntKind.i64.wrap ((b : Int) + 20) = (b : Int) + 20 := IntWalk.i64_in _ (by omega)
      have HI := hid (insertion_any w0 wr base g n c dk HG.out HS.out a b hn1 (by have := HB.out; omega) hlt)
      go_wp2_with fail
      refine HI.out.mono ?_
      rintro e w2 ⟨rfl, d2, hs2, hp2, ho2⟩
      have HS2 := hid hs2
      have HP2 := hid (permIn_trans _ _ _ _ _ HP.out (permIn_mono _ _ a b 0 n (by omega) hlt (by rw [HS.out.sz]; exact Nat.le_refl _) hp2))
      have HQ1 := hid (show SortedIn ltP 0 (min 20 b) d2 by
        have hB := HB.out
        rcases HA.out with e | e | e
        · rw [e] at ho2; exact sorted_less ho2 (Nat.le_refl _) (by omega)
        · exact sorted_congr (sorted_less HO1.out (Nat.le_refl _) (by omega)) fun x _ hx => hp2.2.1 x (by omega)
        · omega)
      have HQ2 := hid (show SortedIn ltP 20 b d2 by
        have hB := HB.out
        rcases HA.out with e | e | e
        · exact fun i j h1 h2 h3 => by omega
        · rw [e] at ho2; exact ho2
        · omega)
      clear hs2 hp2 ho2
      go_wp2_with fail
      go_roundw
      case rel => exact ⟨b, b + 20, d2, hid rfl, hid (by have := HB.out; have := HA.out; omega), hlt, by omega, rfl, by go_num, HS2, HP2, HQ1, HQ2⟩
      case measure => have := HB.out; simp [intOf]; omega
    · have hlt' : ¬ (b : Int) ≤ n := by omega
      have HI := hid (insertion_any w0 wr base g n c dk HG.out HS.out a n hn1 han (Nat.le_refl _))
      go_wp2_with fail
      refine HI.out.mono ?_
      rintro e w2 ⟨rfl, d2, hs2, hp2, ho2⟩
      have HS2 := hid hs2
      have HP2 := hid (permIn_trans _ _ _ _ _ HP.out (permIn_mono _ _ a n 0 n (by omega) (Nat.le_refl _) (by rw [HS.out.sz]; exact Nat.le_refl _) hp2))
      have HQ1 := hid (show SortedIn ltP 0 (min 20 n) d2 by
        have hB := HB.out
        rcases HA.out with e | e | e
        · rw [e] at ho2; exact sorted_less ho2 (Nat.le_refl _) (by omega)
        · exact sorted_congr (sorted_less HO1.out (Nat.le_refl _) (by omega)) fun x _ hx => hp2.2.1 x (by omega)
        · exact sorted_congr (sorted_less HO1.out (Nat.le_refl _) (by omega)) fun x _ hx => hp2.2.1 x (by omega))
      have HQ2 := hid (show SortedIn ltP 20 n d2 by
        have hB := HB.out
        rcases HA.out with e | e | e
        · exact fun i j h1 h2 h3 => by omega
        · rw [e] at ho2; exact ho2
        · exact sorted_congr (sorted_less HO2.out (Nat.le_refl _) (by omega)) fun x _ hx => hp2.2.1 x (by omega))
      clear hs2 hp2 ho2 HO1 HO2 HP HS HI
      generalize w2 = wo at *
      go_wp2_with fail
      go_loopw [6] (fun sv wr => ∃ (s : Nat) (dk : Array PV), sv = .int .i64 s ∧ s ≤ 40 ∧ Hid (s = 20 ∨ s = 40) ∧ Hid (St w0 base g n c dk wr) ∧ Hid (PermIn 0 n d dk) ∧ Hid (s = 20 → SortedIn ltP 0 (min 20 n) dk ∧ SortedIn ltP 20 n dk) ∧ Hid (s = 40 → SortedIn ltP 0 n dk)) (fun sv _ => 60 - (intOf sv).toNat)
      case atStart => exact ⟨20, d2, rfl, by omega, hid (.inl rfl), HS2, HP2, hid (fun _ => ⟨HQ1.out, HQ2.out⟩), hid (fun h => by omega)⟩
      case round =>
        clear HS2 HP2 HQ1 HQ2
        obtain ⟨s, dk, rfl, hs4, HSV, HS, HP, HQ1, HQ2⟩ := hrel
        by_cases hsn : s < n
        · have hsn' : (s : Int) < n := by omega
          have hs20 : s = 20 := by have := HSV.out; omega
          have HS20 := hid hs20
          obtain ⟨s2, he2⟩ : ∃ s2, 2 * s = s2 := ⟨_, rfl⟩
          have e2 : (2 : Int) * s = (s2 : Int) := by omega
          have e3 : (s : Int) * 2 = (s2 : Int) := by omega
          have hs2 : s2 ≤ 80 := by omega
          have HE2 := hid he2
          have w2' : IntKind.i64.wrap (s2 : Int) = (s2 : Int) := IntWalk.i64_in _ (by omega)
          obtain ⟨q1, q2⟩ := HQ1.out hs20
          have HR1 := hid (sorted_less q1 (Nat.le_refl 0) (show 20 ≤ min 20 n by omega)); have HR2 := hid q2
          clear q1 q2 he2 hs20 HQ1 HQ2
          generalize wr = wp at *
          go_wp2_with fail
          go_loopw [7, 8] (fun av bv wr => ∃ (a b : Nat) (dk : Array PV), Hid (b = a + 40) ∧ Hid (a = 0 ∨ a = 40) ∧ a ≤ n ∧ b ≤ 1000 ∧ av = .int .i64 a ∧ bv = .int .i64 b ∧ Hid (St w0 base g n c dk wr) ∧ Hid (PermIn 0 n d dk) ∧ Hid (a = 0 → SortedIn ltP 0 20 dk ∧ SortedIn ltP 20 n dk) ∧ Hid (a = 40 → SortedIn ltP 0 n dk)) (fun av _ _ => n - (intOf av).toNat)
          case atStart => exact ⟨0, s2, dk, hid (by have := HS20.out; have := HE2.out; omega), hid (.inl rfl), by omega, by omega, rfl, rfl, HS, HP, hid (fun _ => ⟨HR1.out, HR2.out⟩), hid (fun h => by omega)⟩
          case round =>
            clear HS HP HR1 HR2
            obtain ⟨a, b, dk, HB, HA, han, hb1, rfl, rfl, HS, HP, HQ1, HQ2⟩ := hrel
            obtain ⟨m, hm⟩ : ∃ m, a + s = m := ⟨_, rfl⟩
            have e4 : (a : Int) + s = (m : Int) := by omega
            have w3 : IntKind.i64.wrap (m : Int) = (m : Int) := IntWalk.i64_in _ (by omega)
            have HM := hid hm
            clear hm
            by_cases hlt : b ≤ n
            · have hlt' : (b : Int) ≤ n := by omega
              have ha0 : a = 0 := by have := HB.out; have := HA.out; omega
              have hm20 : m = 20 := by have := HM.out; have := HS20.out; omega
              have hb40 : b = n := by have := HB.out; omega
              have w1 : IntKind.i64.wrap ((b : Int) + s2) = (b : Int) + s2 := IntWalk.i64_in _ (by omega)
              have HI := hid (sym_to w0 base g n c HG.out hn1 (b - a + 1) a m b dk wr (by omega) (by omega) (by omega) hlt HS.out (by rw [ha0, hm20]; exact (HQ1.out ha0).1) (by rw [hm20, hb40]; exact (HQ1.out ha0).2))
              clear ha0 hm20 hb40
              go_wp2_with fail
              refine HI.out.mono ?_
              rintro e w2 ⟨rfl, d2, hs2, hp2, ho2⟩
              have HS2 := hid hs2
              have HP2 := hid (permIn_trans _ _ _ _ _ HP.out (permIn_mono _ _ a b 0 n (by omega) hlt (by rw [HS.out.sz]; exact Nat.le_refl _) hp2))
              have HO2 := hid (show SortedIn ltP 0 n d2 from sorted_less ho2 (by have := HB.out; have := HA.out; omega) (by have := HB.out; have := HA.out; omega))
              clear hs2 hp2 ho2
              go_wp2_with fail
              go_roundw
              case rel => exact ⟨b, b + s2, d2, hid (by have := HE2.out; have := HS20.out; omega), hid (by have := HB.out; have := HA.out; omega), hlt, by omega, rfl, by go_num, HS2, HP2, hid (fun h => by have := HB.out; omega), hid (fun _ => HO2.out)⟩
              case measure => have := HB.out; simp [intOf]; omega
            · have hlt' : ¬ (b : Int) ≤ n := by omega
              by_cases hmn : m < n
              · have hmn' : (m : Int) < n := by omega
                have ha0 : a = 0 := by have := HA.out; have := HM.out; have := HS20.out; omega
                have hm20 : m = 20 := by have := HM.out; have := HS20.out; omega
                have HI := hid (sym_to w0 base g n c HG.out hn1 (n - a + 1) a m n dk wr (by omega) (by omega) hmn (Nat.le_refl _) HS.out (by rw [ha0, hm20]; exact (HQ1.out ha0).1) (by rw [hm20]; exact (HQ1.out ha0).2))
                have HA0 := hid ha0
                clear ha0 hm20
                go_wp2_with fail
                refine HI.out.mono ?_
                rintro e w2 ⟨rfl, d2, hs2, hp2, ho2⟩
                have HS2 := hid hs2
                have HP2 := hid (permIn_trans _ _ _ _ _ HP.out (permIn_mono _ _ a n 0 n (by omega) (Nat.le_refl _) (by rw [HS.out.sz]; exact Nat.le_refl _) hp2))
                have HO2 := hid (show SortedIn ltP 0 n d2 from sorted_less ho2 (by have := HA0.out; omega) (Nat.le_refl _))
                clear hs2 hp2 ho2
                go_wp2_with fail
                go_roundw
                case rel => exact ⟨s2, d2, rfl, by have := HE2.out; have := HS20.out; omega, hid (.inr (by have := HE2.out; have := HS20.out; omega)), HS2, HP2, hid (fun h => by have := HE2.out; have := HS20.out; omega), hid (fun _ => HO2.out)⟩
                case measure => have := HE2.out; have := HS20.out; simp [intOf]; omega
              · have hmn' : ¬ (m : Int) < n := by omega
                have ha4 : a = 40 := by have := HA.out; have := HM.out; have := HS20.out; omega
                have HO2 := hid (HQ2.out ha4)
                clear ha4
                go_wp2_with fail
                go_roundw
                case rel => exact ⟨s2, dk, rfl, by have := HE2.out; have := HS20.out; omega, hid (.inr (by have := HE2.out; have := HS20.out; omega)), HS, HP, hid (fun h => by have := HE2.out; have := HS20.out; omega), hid (fun _ => HO2.out)⟩
                case measure => have := HE2.out; have := HS20.out; simp [intOf]; omega
        · have hsn' : ¬ (s : Int) < n := by omega
          have HO := hid (show SortedIn ltP 0 n dk by
            rcases HSV.out with e | e
            · exact sorted_less (HQ1.out e).1 (Nat.le_refl _) (by omega)
            · exact HQ2.out e)
          go_wp2_with fail
          go_end0
          exact ⟨rfl, dk, HS.out, HP.out, HO.out⟩
end Go.Proofs.Ytebanmigaikhhaa
