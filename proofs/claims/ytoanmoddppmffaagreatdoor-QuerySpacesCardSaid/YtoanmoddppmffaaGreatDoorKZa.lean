/- QuerySpaces. -/
import Derived.Test.YtoanmoddppmffaaGreatDoorKFj
import Derived.Test.YtoanmoddppmffaaGreatDoorKKa
import Derived.Test.YtoanmoddppmffaaGreatDoorKRj
namespace Go.Proofs.YtoanmoddppmffaaGreatDoor.T
open Go.RowKit Go.Shelf Go.Proofs.YtoanmoddppmffaaGreatDoorW.PrintWords
set_option linter.unusedVariables false
set_option linter.unusedSimpArgs false
theorem writeQ_some {l : List Step} {t : ByteArray} (h : writeQ l = some t) : ∃ m, parseQ t = some m ∧ eqB l m = true := by
  unfold writeQ at h
  split at h
  · cases hp : parseQ (pathT true l).1 with
    | none => rw [hp] at h; cases h
    | some m =>
      rw [hp] at h
      simp only at h
      split at h
      · rename_i he
        obtain rfl := Option.some.inj h
        exact ⟨m, hp, he⟩
      · cases h
  · cases h
theorem ext_one (s : ByteArray) (i : Nat) (h : i < s.size) : (s.extract i (i + 1)).data.toList = [s[i]] := by
  have h' : i < s.data.toList.length := by rw [Array.length_toList]; exact h
  have : (s.extract i (i + 1)).data.toList = (s.data.toList.drop i).take 1 := by simp
  rw [this, List.drop_eq_getElem_cons h']
  simp
  rfl
theorem app_data (a b : ByteArray) : (a ++ b).data.toList = a.data.toList ++ b.data.toList := by simp
theorem take_one (s : ByteArray) (i : Nat) (h : i < s.size) : s.data.toList.take (i + 1) = s.data.toList.take i ++ [s[i]] := by
  have h' : i < s.data.toList.length := by rw [Array.length_toList]; exact h
  rw [List.take_add_one, List.getElem?_eq_getElem h']
  rfl
theorem space1 : parseG 5000 ⟨#[47, 97, 32, 98]⟩ = some none := by kernel_rfl
def spaceL : List Step := [⟨false, 1, ⟨#[97]⟩, []⟩, ⟨false, 1, ⟨#[98]⟩, []⟩]
theorem space2 : parseG 5000 ⟨#[47, 97, 47, 32, 98, 32]⟩ = some (some spaceL) := by kernel_rfl
theorem parseQ_size {q : ByteArray} {m : List Step} (h : parseQ q = some m) : q.size ≤ 300 := (parseG_some (parseQ_some h)).1
set_option maxHeartbeats 4000000 in
set_option maxRecDepth 100000 in
theorem spaces_any {ok : Nat → Prop} (w : World) (v : Value) (l : List Step) (n : Int) (hl : StepsR ok w v l) (hS : St w) : Calls Tryz.prog 5 #[v, .int .i64 n] w fun e w' => e = .returned (.bool true) ∧ Below w.heap.size w w' := by
  have h1 := awake_any w hS.vr hS.er
  have HL := Aside0.mk hl
  obtain ⟨_, hl'⟩ := hl
  obtain ⟨A, c, rfl, hc1, hc2⟩ := hl'.slice
  have HS := Aside0.mk hS
  clear hl' hS
  go_enter Tryz.func5, Tryz.ntmps5
  go_wp2_with fail
  go_at_call 6
  refine h1.mono ?_
  rintro e w1 ⟨rfl, hb1⟩
  have h2 : Calls Tryz.prog 7 #[.slice A l.length c, .int .i64 4] w1 _ := (small_few 4 (by decide)).1 _ w1 _ l (HL.out.below hb1)
  have HB1 := Aside0.mk hb1
  clear h1 hb1
  go_wp2_with fail
  go_at_call 7
  refine h2.mono ?_
  rintro e w2 ⟨v2, rfl, hs2, hb2⟩
  have HB2 := Aside0.mk (below_step HB1.out hb2)
  have h3 := write_any w2 v2 _ hs2 (HS.out.below HB2.out) (small4 l).1 (small4 l).2
  clear h2 hb2 hs2
  go_wp2_with fail
  go_at_call 8
  refine h3.mono ?_
  rintro e w3 ⟨rfl, hb3⟩
  have HB3 := Aside0.mk (below_step HB2.out hb3)
  obtain ⟨r, hr⟩ : ∃ r, r = writeQ (smallL 4 l) := ⟨_, rfl⟩
  rw [← hr]
  have HR := Aside0.mk hr
  clear h3 hb3 hr
  cases r with
  | none =>
    unfold writeV
    go_wp2
    go_ret
    exact ⟨rfl, HB3.out⟩
  | some s =>
    unfold writeV
    obtain ⟨m, hpm, _⟩ := writeQ_some HR.out.symm
    have hsz := parseQ_size hpm
    have HPM := Aside0.mk hpm
    clear hpm
    have hm : (s.size : Int) ≤ 300 := by omega
    go_wp2
    go_loopg [8, 9, 10] s.size (fun gk tv mv iv wr => w3 = wr ∧ ∃ (i k : Nat) (t : ByteArray), iv = .int .i64 i ∧ mv = .int .i64 k ∧ tv = .string t ∧ i ≤ s.size ∧ k ≤ 100 ∧ t.size ≤ 2 * i ∧ s.size - i ≤ gk ∧ Aside0 (Sprd (s.data.toList.take i) t.data.toList))
    case atStart => exact ⟨rfl, 0, 0, ⟨#[]⟩, rfl, rfl, rfl, by omega, by omega, by decide, by omega, ⟨by simp; exact .nil⟩⟩
    case round =>
      obtain ⟨rfl, i, k, t, rfl, rfl, rfl, hi, hk, ht, hgk, HSP⟩ := hrel
      have hi0 : (0 : Int) ≤ (i : Int) := by omega
      have hk0 : (0 : Int) ≤ (k : Int) := by omega
      by_cases hlt : i < s.size
      · have hlt1 : (i : Int) < (s.size : Int) := by omega
        have hl1 : (i : Int) + 1 ≤ (s.size : Int) := by omega
        have hl2 : (i : Int) ≤ (i : Int) + 1 := by omega
        have hl3 : ((i : Int) + 1).toNat = i + 1 := by omega
        have hx : (s.extract i (i + 1)).data.toList = [s[i]] := ext_one s i hlt
        have hxs : (s.extract i (i + 1)).size = 1 := by rw [ByteArray.size_extract]; omega
        have hts : ¬ 9223372036854775807 < t.size + 1 := by omega
        have hts2 : ¬ 9223372036854775807 < t.size + 1 + 1 := by omega
        have htk : s.data.toList.take (i + 1) = s.data.toList.take i ++ [s[i]] := take_one s i hlt
        have HF : Aside0 (Sprd (s.data.toList.take (i + 1)) (t ++ s.extract i (i + 1)).data.toList) := ⟨by
          rw [htk, show (t ++ s.extract i (i + 1)).data.toList = t.data.toList ++ [s[i]] by rw [app_data, hx]]
          exact HSP.out.app (.keep _ .nil)⟩
        by_cases hbr : isBr s[i] = true
        · have HT : Aside0 (∀ (Y : ByteArray) (x : UInt8), Y.data.toList = [x] → isSp x = true → Sprd (s.data.toList.take (i + 1)) (t ++ s.extract i (i + 1) ++ Y).data.toList) := ⟨fun Y x hY hsp => by
            rw [htk, show (t ++ s.extract i (i + 1) ++ Y).data.toList = t.data.toList ++ [s[i], x] by rw [app_data, app_data, hx, hY, List.append_assoc]; rfl]
            exact HSP.out.app (.ins _ _ hbr hsp .nil)⟩
          have hsn : s[i].toNat = 91 ∨ s[i].toNat = 93 ∨ s[i].toNat = 40 ∨ s[i].toNat = 41 ∨ s[i].toNat = 64 := by rcases br_cases hbr with h | h | h | h | h <;> rw [h] <;> decide
          clear hbr hx htk
          rcases hsn with hsn | hsn | hsn | hsn | hsn
          · go_upto_region 13 with fail
            by_cases hk1 : k < 100
            · have hk1' : (k : Int) < 100 := by omega
              have h4 : (k : Int) % 4 = 0 ∨ (k : Int) % 4 = 1 ∨ (k : Int) % 4 = 2 ∨ (k : Int) % 4 = 3 := by omega
              rcases h4 with h4 | h4 | h4 | h4
              · by_cases hb : (bits .and .i64 (n / 2 ^ (k % 60)) 1 == 1) = true
                · go_wp2
                  go_roundg (s.size - (i + 1))
                  case measure => omega
                  case rel => exact ⟨rfl, i + 1, k + 1, _, by go_num, by go_num, rfl, by omega, by omega, by rw [ByteArray.size_append, ByteArray.size_append]; show t.size + _ + 1 ≤ _; omega, by omega, ⟨HT.out _ 32 rfl (by decide)⟩⟩
                · have hb' : (bits .and .i64 (n / 2 ^ (k % 60)) 1 == 1) = false := by simpa using hb
                  go_wp2
                  go_roundg (s.size - (i + 1))
                  case measure => omega
                  case rel => exact ⟨rfl, i + 1, k, _, by go_num, rfl, rfl, by omega, by omega, by rw [ByteArray.size_append]; omega, by omega, HF⟩
              · by_cases hb : (bits .and .i64 (n / 2 ^ (k % 60)) 1 == 1) = true
                · go_wp2
                  go_roundg (s.size - (i + 1))
                  case measure => omega
                  case rel => exact ⟨rfl, i + 1, k + 1, _, by go_num, by go_num, rfl, by omega, by omega, by rw [ByteArray.size_append, ByteArray.size_append]; show t.size + _ + 1 ≤ _; omega, by omega, ⟨HT.out _ 10 rfl (by decide)⟩⟩
                · have hb' : (bits .and .i64 (n / 2 ^ (k % 60)) 1 == 1) = false := by simpa using hb
                  go_wp2
                  go_roundg (s.size - (i + 1))
                  case measure => omega
                  case rel => exact ⟨rfl, i + 1, k, _, by go_num, rfl, rfl, by omega, by omega, by rw [ByteArray.size_append]; omega, by omega, HF⟩
              · by_cases hb : (bits .and .i64 (n / 2 ^ (k % 60)) 1 == 1) = true
                · go_wp2
                  go_roundg (s.size - (i + 1))
                  case measure => omega
                  case rel => exact ⟨rfl, i + 1, k + 1, _, by go_num, by go_num, rfl, by omega, by omega, by rw [ByteArray.size_append, ByteArray.size_append]; show t.size + _ + 1 ≤ _; omega, by omega, ⟨HT.out _ 9 rfl (by decide)⟩⟩
                · have hb' : (bits .and .i64 (n / 2 ^ (k % 60)) 1 == 1) = false := by simpa using hb
                  go_wp2
                  go_roundg (s.size - (i + 1))
                  case measure => omega
                  case rel => exact ⟨rfl, i + 1, k, _, by go_num, rfl, rfl, by omega, by omega, by rw [ByteArray.size_append]; omega, by omega, HF⟩
              · by_cases hb : (bits .and .i64 (n / 2 ^ (k % 60)) 1 == 1) = true
                · go_wp2
                  go_roundg (s.size - (i + 1))
                  case measure => omega
                  case rel => exact ⟨rfl, i + 1, k + 1, _, by go_num, by go_num, rfl, by omega, by omega, by rw [ByteArray.size_append, ByteArray.size_append]; show t.size + _ + 1 ≤ _; omega, by omega, ⟨HT.out _ 13 rfl (by decide)⟩⟩
                · have hb' : (bits .and .i64 (n / 2 ^ (k % 60)) 1 == 1) = false := by simpa using hb
                  go_wp2
                  go_roundg (s.size - (i + 1))
                  case measure => omega
                  case rel => exact ⟨rfl, i + 1, k, _, by go_num, rfl, rfl, by omega, by omega, by rw [ByteArray.size_append]; omega, by omega, HF⟩
            · have hk1' : ¬ (k : Int) < 100 := by omega
              go_wp2
              go_roundg (s.size - (i + 1))
              case measure => omega
              case rel => exact ⟨rfl, i + 1, k, _, by go_num, rfl, rfl, by omega, by omega, by rw [ByteArray.size_append]; omega, by omega, HF⟩
          · go_upto_region 13 with fail
            by_cases hk1 : k < 100
            · have hk1' : (k : Int) < 100 := by omega
              have h4 : (k : Int) % 4 = 0 ∨ (k : Int) % 4 = 1 ∨ (k : Int) % 4 = 2 ∨ (k : Int) % 4 = 3 := by omega
              rcases h4 with h4 | h4 | h4 | h4
              · by_cases hb : (bits .and .i64 (n / 2 ^ (k % 60)) 1 == 1) = true
                · go_wp2
                  go_roundg (s.size - (i + 1))
                  case measure => omega
                  case rel => exact ⟨rfl, i + 1, k + 1, _, by go_num, by go_num, rfl, by omega, by omega, by rw [ByteArray.size_append, ByteArray.size_append]; show t.size + _ + 1 ≤ _; omega, by omega, ⟨HT.out _ 32 rfl (by decide)⟩⟩
                · have hb' : (bits .and .i64 (n / 2 ^ (k % 60)) 1 == 1) = false := by simpa using hb
                  go_wp2
                  go_roundg (s.size - (i + 1))
                  case measure => omega
                  case rel => exact ⟨rfl, i + 1, k, _, by go_num, rfl, rfl, by omega, by omega, by rw [ByteArray.size_append]; omega, by omega, HF⟩
              · by_cases hb : (bits .and .i64 (n / 2 ^ (k % 60)) 1 == 1) = true
                · go_wp2
                  go_roundg (s.size - (i + 1))
                  case measure => omega
                  case rel => exact ⟨rfl, i + 1, k + 1, _, by go_num, by go_num, rfl, by omega, by omega, by rw [ByteArray.size_append, ByteArray.size_append]; show t.size + _ + 1 ≤ _; omega, by omega, ⟨HT.out _ 10 rfl (by decide)⟩⟩
                · have hb' : (bits .and .i64 (n / 2 ^ (k % 60)) 1 == 1) = false := by simpa using hb
                  go_wp2
                  go_roundg (s.size - (i + 1))
                  case measure => omega
                  case rel => exact ⟨rfl, i + 1, k, _, by go_num, rfl, rfl, by omega, by omega, by rw [ByteArray.size_append]; omega, by omega, HF⟩
              · by_cases hb : (bits .and .i64 (n / 2 ^ (k % 60)) 1 == 1) = true
                · go_wp2
                  go_roundg (s.size - (i + 1))
                  case measure => omega
                  case rel => exact ⟨rfl, i + 1, k + 1, _, by go_num, by go_num, rfl, by omega, by omega, by rw [ByteArray.size_append, ByteArray.size_append]; show t.size + _ + 1 ≤ _; omega, by omega, ⟨HT.out _ 9 rfl (by decide)⟩⟩
                · have hb' : (bits .and .i64 (n / 2 ^ (k % 60)) 1 == 1) = false := by simpa using hb
                  go_wp2
                  go_roundg (s.size - (i + 1))
                  case measure => omega
                  case rel => exact ⟨rfl, i + 1, k, _, by go_num, rfl, rfl, by omega, by omega, by rw [ByteArray.size_append]; omega, by omega, HF⟩
              · by_cases hb : (bits .and .i64 (n / 2 ^ (k % 60)) 1 == 1) = true
                · go_wp2
                  go_roundg (s.size - (i + 1))
                  case measure => omega
                  case rel => exact ⟨rfl, i + 1, k + 1, _, by go_num, by go_num, rfl, by omega, by omega, by rw [ByteArray.size_append, ByteArray.size_append]; show t.size + _ + 1 ≤ _; omega, by omega, ⟨HT.out _ 13 rfl (by decide)⟩⟩
                · have hb' : (bits .and .i64 (n / 2 ^ (k % 60)) 1 == 1) = false := by simpa using hb
                  go_wp2
                  go_roundg (s.size - (i + 1))
                  case measure => omega
                  case rel => exact ⟨rfl, i + 1, k, _, by go_num, rfl, rfl, by omega, by omega, by rw [ByteArray.size_append]; omega, by omega, HF⟩
            · have hk1' : ¬ (k : Int) < 100 := by omega
              go_wp2
              go_roundg (s.size - (i + 1))
              case measure => omega
              case rel => exact ⟨rfl, i + 1, k, _, by go_num, rfl, rfl, by omega, by omega, by rw [ByteArray.size_append]; omega, by omega, HF⟩
          · go_upto_region 13 with fail
            by_cases hk1 : k < 100
            · have hk1' : (k : Int) < 100 := by omega
              have h4 : (k : Int) % 4 = 0 ∨ (k : Int) % 4 = 1 ∨ (k : Int) % 4 = 2 ∨ (k : Int) % 4 = 3 := by omega
              rcases h4 with h4 | h4 | h4 | h4
              · by_cases hb : (bits .and .i64 (n / 2 ^ (k % 60)) 1 == 1) = true
                · go_wp2
                  go_roundg (s.size - (i + 1))
                  case measure => omega
                  case rel => exact ⟨rfl, i + 1, k + 1, _, by go_num, by go_num, rfl, by omega, by omega, by rw [ByteArray.size_append, ByteArray.size_append]; show t.size + _ + 1 ≤ _; omega, by omega, ⟨HT.out _ 32 rfl (by decide)⟩⟩
                · have hb' : (bits .and .i64 (n / 2 ^ (k % 60)) 1 == 1) = false := by simpa using hb
                  go_wp2
                  go_roundg (s.size - (i + 1))
                  case measure => omega
                  case rel => exact ⟨rfl, i + 1, k, _, by go_num, rfl, rfl, by omega, by omega, by rw [ByteArray.size_append]; omega, by omega, HF⟩
              · by_cases hb : (bits .and .i64 (n / 2 ^ (k % 60)) 1 == 1) = true
                · go_wp2
                  go_roundg (s.size - (i + 1))
                  case measure => omega
                  case rel => exact ⟨rfl, i + 1, k + 1, _, by go_num, by go_num, rfl, by omega, by omega, by rw [ByteArray.size_append, ByteArray.size_append]; show t.size + _ + 1 ≤ _; omega, by omega, ⟨HT.out _ 10 rfl (by decide)⟩⟩
                · have hb' : (bits .and .i64 (n / 2 ^ (k % 60)) 1 == 1) = false := by simpa using hb
                  go_wp2
                  go_roundg (s.size - (i + 1))
                  case measure => omega
                  case rel => exact ⟨rfl, i + 1, k, _, by go_num, rfl, rfl, by omega, by omega, by rw [ByteArray.size_append]; omega, by omega, HF⟩
              · by_cases hb : (bits .and .i64 (n / 2 ^ (k % 60)) 1 == 1) = true
                · go_wp2
                  go_roundg (s.size - (i + 1))
                  case measure => omega
                  case rel => exact ⟨rfl, i + 1, k + 1, _, by go_num, by go_num, rfl, by omega, by omega, by rw [ByteArray.size_append, ByteArray.size_append]; show t.size + _ + 1 ≤ _; omega, by omega, ⟨HT.out _ 9 rfl (by decide)⟩⟩
                · have hb' : (bits .and .i64 (n / 2 ^ (k % 60)) 1 == 1) = false := by simpa using hb
                  go_wp2
                  go_roundg (s.size - (i + 1))
                  case measure => omega
                  case rel => exact ⟨rfl, i + 1, k, _, by go_num, rfl, rfl, by omega, by omega, by rw [ByteArray.size_append]; omega, by omega, HF⟩
              · by_cases hb : (bits .and .i64 (n / 2 ^ (k % 60)) 1 == 1) = true
                · go_wp2
                  go_roundg (s.size - (i + 1))
                  case measure => omega
                  case rel => exact ⟨rfl, i + 1, k + 1, _, by go_num, by go_num, rfl, by omega, by omega, by rw [ByteArray.size_append, ByteArray.size_append]; show t.size + _ + 1 ≤ _; omega, by omega, ⟨HT.out _ 13 rfl (by decide)⟩⟩
                · have hb' : (bits .and .i64 (n / 2 ^ (k % 60)) 1 == 1) = false := by simpa using hb
                  go_wp2
                  go_roundg (s.size - (i + 1))
                  case measure => omega
                  case rel => exact ⟨rfl, i + 1, k, _, by go_num, rfl, rfl, by omega, by omega, by rw [ByteArray.size_append]; omega, by omega, HF⟩
            · have hk1' : ¬ (k : Int) < 100 := by omega
              go_wp2
              go_roundg (s.size - (i + 1))
              case measure => omega
              case rel => exact ⟨rfl, i + 1, k, _, by go_num, rfl, rfl, by omega, by omega, by rw [ByteArray.size_append]; omega, by omega, HF⟩
          · go_upto_region 13 with fail
            by_cases hk1 : k < 100
            · have hk1' : (k : Int) < 100 := by omega
              have h4 : (k : Int) % 4 = 0 ∨ (k : Int) % 4 = 1 ∨ (k : Int) % 4 = 2 ∨ (k : Int) % 4 = 3 := by omega
              rcases h4 with h4 | h4 | h4 | h4
              · by_cases hb : (bits .and .i64 (n / 2 ^ (k % 60)) 1 == 1) = true
                · go_wp2
                  go_roundg (s.size - (i + 1))
                  case measure => omega
                  case rel => exact ⟨rfl, i + 1, k + 1, _, by go_num, by go_num, rfl, by omega, by omega, by rw [ByteArray.size_append, ByteArray.size_append]; show t.size + _ + 1 ≤ _; omega, by omega, ⟨HT.out _ 32 rfl (by decide)⟩⟩
                · have hb' : (bits .and .i64 (n / 2 ^ (k % 60)) 1 == 1) = false := by simpa using hb
                  go_wp2
                  go_roundg (s.size - (i + 1))
                  case measure => omega
                  case rel => exact ⟨rfl, i + 1, k, _, by go_num, rfl, rfl, by omega, by omega, by rw [ByteArray.size_append]; omega, by omega, HF⟩
              · by_cases hb : (bits .and .i64 (n / 2 ^ (k % 60)) 1 == 1) = true
                · go_wp2
                  go_roundg (s.size - (i + 1))
                  case measure => omega
                  case rel => exact ⟨rfl, i + 1, k + 1, _, by go_num, by go_num, rfl, by omega, by omega, by rw [ByteArray.size_append, ByteArray.size_append]; show t.size + _ + 1 ≤ _; omega, by omega, ⟨HT.out _ 10 rfl (by decide)⟩⟩
                · have hb' : (bits .and .i64 (n / 2 ^ (k % 60)) 1 == 1) = false := by simpa using hb
                  go_wp2
                  go_roundg (s.size - (i + 1))
                  case measure => omega
                  case rel => exact ⟨rfl, i + 1, k, _, by go_num, rfl, rfl, by omega, by omega, by rw [ByteArray.size_append]; omega, by omega, HF⟩
              · by_cases hb : (bits .and .i64 (n / 2 ^ (k % 60)) 1 == 1) = true
                · go_wp2
                  go_roundg (s.size - (i + 1))
                  case measure => omega
                  case rel => exact ⟨rfl, i + 1, k + 1, _, by go_num, by go_num, rfl, by omega, by omega, by rw [ByteArray.size_append, ByteArray.size_append]; show t.size + _ + 1 ≤ _; omega, by omega, ⟨HT.out _ 9 rfl (by decide)⟩⟩
                · have hb' : (bits .and .i64 (n / 2 ^ (k % 60)) 1 == 1) = false := by simpa using hb
                  go_wp2
                  go_roundg (s.size - (i + 1))
                  case measure => omega
                  case rel => exact ⟨rfl, i + 1, k, _, by go_num, rfl, rfl, by omega, by omega, by rw [ByteArray.size_append]; omega, by omega, HF⟩
              · by_cases hb : (bits .and .i64 (n / 2 ^ (k % 60)) 1 == 1) = true
                · go_wp2
                  go_roundg (s.size - (i + 1))
                  case measure => omega
                  case rel => exact ⟨rfl, i + 1, k + 1, _, by go_num, by go_num, rfl, by omega, by omega, by rw [ByteArray.size_append, ByteArray.size_append]; show t.size + _ + 1 ≤ _; omega, by omega, ⟨HT.out _ 13 rfl (by decide)⟩⟩
                · have hb' : (bits .and .i64 (n / 2 ^ (k % 60)) 1 == 1) = false := by simpa using hb
                  go_wp2
                  go_roundg (s.size - (i + 1))
                  case measure => omega
                  case rel => exact ⟨rfl, i + 1, k, _, by go_num, rfl, rfl, by omega, by omega, by rw [ByteArray.size_append]; omega, by omega, HF⟩
            · have hk1' : ¬ (k : Int) < 100 := by omega
              go_wp2
              go_roundg (s.size - (i + 1))
              case measure => omega
              case rel => exact ⟨rfl, i + 1, k, _, by go_num, rfl, rfl, by omega, by omega, by rw [ByteArray.size_append]; omega, by omega, HF⟩
          · go_upto_region 13 with fail
            by_cases hk1 : k < 100
            · have hk1' : (k : Int) < 100 := by omega
              have h4 : (k : Int) % 4 = 0 ∨ (k : Int) % 4 = 1 ∨ (k : Int) % 4 = 2 ∨ (k : Int) % 4 = 3 := by omega
              rcases h4 with h4 | h4 | h4 | h4
              · by_cases hb : (bits .and .i64 (n / 2 ^ (k % 60)) 1 == 1) = true
                · go_wp2
                  go_roundg (s.size - (i + 1))
                  case measure => omega
                  case rel => exact ⟨rfl, i + 1, k + 1, _, by go_num, by go_num, rfl, by omega, by omega, by rw [ByteArray.size_append, ByteArray.size_append]; show t.size + _ + 1 ≤ _; omega, by omega, ⟨HT.out _ 32 rfl (by decide)⟩⟩
                · have hb' : (bits .and .i64 (n / 2 ^ (k % 60)) 1 == 1) = false := by simpa using hb
                  go_wp2
                  go_roundg (s.size - (i + 1))
                  case measure => omega
                  case rel => exact ⟨rfl, i + 1, k, _, by go_num, rfl, rfl, by omega, by omega, by rw [ByteArray.size_append]; omega, by omega, HF⟩
              · by_cases hb : (bits .and .i64 (n / 2 ^ (k % 60)) 1 == 1) = true
                · go_wp2
                  go_roundg (s.size - (i + 1))
                  case measure => omega
                  case rel => exact ⟨rfl, i + 1, k + 1, _, by go_num, by go_num, rfl, by omega, by omega, by rw [ByteArray.size_append, ByteArray.size_append]; show t.size + _ + 1 ≤ _; omega, by omega, ⟨HT.out _ 10 rfl (by decide)⟩⟩
                · have hb' : (bits .and .i64 (n / 2 ^ (k % 60)) 1 == 1) = false := by simpa using hb
                  go_wp2
                  go_roundg (s.size - (i + 1))
                  case measure => omega
                  case rel => exact ⟨rfl, i + 1, k, _, by go_num, rfl, rfl, by omega, by omega, by rw [ByteArray.size_append]; omega, by omega, HF⟩
              · by_cases hb : (bits .and .i64 (n / 2 ^ (k % 60)) 1 == 1) = true
                · go_wp2
                  go_roundg (s.size - (i + 1))
                  case measure => omega
                  case rel => exact ⟨rfl, i + 1, k + 1, _, by go_num, by go_num, rfl, by omega, by omega, by rw [ByteArray.size_append, ByteArray.size_append]; show t.size + _ + 1 ≤ _; omega, by omega, ⟨HT.out _ 9 rfl (by decide)⟩⟩
                · have hb' : (bits .and .i64 (n / 2 ^ (k % 60)) 1 == 1) = false := by simpa using hb
                  go_wp2
                  go_roundg (s.size - (i + 1))
                  case measure => omega
                  case rel => exact ⟨rfl, i + 1, k, _, by go_num, rfl, rfl, by omega, by omega, by rw [ByteArray.size_append]; omega, by omega, HF⟩
              · by_cases hb : (bits .and .i64 (n / 2 ^ (k % 60)) 1 == 1) = true
                · go_wp2
                  go_roundg (s.size - (i + 1))
                  case measure => omega
                  case rel => exact ⟨rfl, i + 1, k + 1, _, by go_num, by go_num, rfl, by omega, by omega, by rw [ByteArray.size_append, ByteArray.size_append]; show t.size + _ + 1 ≤ _; omega, by omega, ⟨HT.out _ 13 rfl (by decide)⟩⟩
                · have hb' : (bits .and .i64 (n / 2 ^ (k % 60)) 1 == 1) = false := by simpa using hb
                  go_wp2
                  go_roundg (s.size - (i + 1))
                  case measure => omega
                  case rel => exact ⟨rfl, i + 1, k, _, by go_num, rfl, rfl, by omega, by omega, by rw [ByteArray.size_append]; omega, by omega, HF⟩
            · have hk1' : ¬ (k : Int) < 100 := by omega
              go_wp2
              go_roundg (s.size - (i + 1))
              case measure => omega
              case rel => exact ⟨rfl, i + 1, k, _, by go_num, rfl, rfl, by omega, by omega, by rw [ByteArray.size_append]; omega, by omega, HF⟩
        · have n1 : ¬ s[i].toNat = 91 := fun h => hbr (by rw [show s[i] = 91 from UInt8.toNat_inj.1 h]; decide)
          have n2 : ¬ s[i].toNat = 93 := fun h => hbr (by rw [show s[i] = 93 from UInt8.toNat_inj.1 h]; decide)
          have n3 : ¬ s[i].toNat = 40 := fun h => hbr (by rw [show s[i] = 40 from UInt8.toNat_inj.1 h]; decide)
          have n4 : ¬ s[i].toNat = 41 := fun h => hbr (by rw [show s[i] = 41 from UInt8.toNat_inj.1 h]; decide)
          have n5 : ¬ s[i].toNat = 64 := fun h => hbr (by rw [show s[i] = 64 from UInt8.toNat_inj.1 h]; decide)
          have m1 : ((s[i].toNat : Int) == 91) = false := by rw [beq_eq_false_iff_ne]; omega
          have m2 : ((s[i].toNat : Int) == 93) = false := by rw [beq_eq_false_iff_ne]; omega
          have m3 : ((s[i].toNat : Int) == 40) = false := by rw [beq_eq_false_iff_ne]; omega
          have m4 : ((s[i].toNat : Int) == 41) = false := by rw [beq_eq_false_iff_ne]; omega
          have m5 : ((s[i].toNat : Int) == 64) = false := by rw [beq_eq_false_iff_ne]; omega
          clear hbr hx htk
          go_wp2
          go_roundg (s.size - (i + 1))
          case measure => omega
          case rel => exact ⟨rfl, i + 1, k, _, by go_num, rfl, rfl, by omega, by omega, by rw [ByteArray.size_append]; omega, by omega, HF⟩
      · obtain rfl : i = s.size := by omega
        have HSPF : Aside0 (Sprd s.data.toList t.data.toList) := ⟨by
          have := HSP.out
          rwa [List.take_of_length_le (by rw [Array.length_toList]; exact Nat.le_refl _)] at this⟩
        have hS3 := HS.out.below HB3.out
        by_cases hbig : 300 < t.size
        · have hbig' : (300 : Int) < (t.size : Int) := by omega
          go_wp2
          go_ret
          exact ⟨rfl, HB3.out⟩
        · have hbig' : ¬ (300 : Int) < (t.size : Int) := by omega
          have hp1 := parse_every s w3 hS3.vr hS3.er
          rw [HPM.out] at hp1
          have hts : ¬ 9223372036854775807 < 1 + t.size := by omega
          clear hS3
          go_wp2_with fail
          go_at_call 11
          refine hp1.mono ?_
          rintro e w4 ⟨hb4, A4, c4, rfl, hc4, hm4⟩
          have HB4 := Aside0.mk (below_step HB3.out hb4)
          have HM4 := Aside0.mk hm4
          have hS4 := HS.out.below HB4.out
          have hp2 := parse_every (⟨#[32]⟩ ++ t) w4 hS4.vr hS4.er
          clear hp1 hb4 hm4 hS4
          by_cases h300 : t.size = 300
          · have hq : parseQ (⟨#[32]⟩ ++ t) = none := parseQ_long (by rw [ByteArray.size_append]; show 1 + t.size > 300; omega)
            rw [hq] at hp2
            have h300' : ((t.size : Nat) : Int) = 300 := by omega
            clear hq
            go_wp2_with fail
            go_at_call 11
            refine hp2.mono ?_
            rintro e w5 ⟨hb5, rfl⟩
            have HB5 := Aside0.mk (below_step HB4.out hb5)
            clear hp2 hb5
            go_wp2
            go_ret
            exact ⟨rfl, HB5.out⟩
          · have hq := parse_sprd HSPF.out HPM.out (show t.size ≤ 299 by omega)
            rw [hq] at hp2
            have h300' : ¬ ((t.size : Nat) : Int) = 300 := by omega
            clear hq
            go_wp2_with fail
            go_at_call 11
            refine hp2.mono ?_
            rintro e w5 ⟨hb5, A5, c5, rfl, hc5, hm5⟩
            have HB5 := Aside0.mk (below_step HB4.out hb5)
            have hsame := refSame_any (HM4.out.below hb5) hm5
            rw [eqB_self] at hsame
            clear hp2 hb5 hm5
            go_wp2_with fail
            go_at_call 12
            refine hsame.mono ?_
            rintro e w6 ⟨rfl, hb6⟩
            have HB6 := Aside0.mk (below_step HB5.out hb6)
            have hS6 := HS.out.below HB6.out
            have hp3 := parse_any ⟨#[47, 97, 32, 98]⟩ 5000 none w6 (by decide) space1 hS6.vr hS6.er (by decide)
            clear hsame hb6 hS6
            go_wp2_with fail
            go_at_call 11
            refine hp3.mono ?_
            rintro e w7 ⟨hb7, rfl⟩
            have HB7 := Aside0.mk (below_step HB6.out hb7)
            have hS7 := HS.out.below HB7.out
            have hp4 := parse_any ⟨#[47, 97, 47, 32, 98, 32]⟩ 5000 (some spaceL) w7 (by decide) space2 hS7.vr hS7.er (by decide)
            clear hp3 hb7 hS7
            go_wp2_with fail
            go_at_call 11
            refine hp4.mono ?_
            rintro e w8 ⟨hb8, A8, c8, rfl, hc8, hm8⟩
            have HB8 := Aside0.mk (below_step HB7.out hb8)
            clear hp4 hb8 hm8
            go_wp2
            go_ret
            exact ⟨rfl, HB8.out⟩
end Go.Proofs.YtoanmoddppmffaaGreatDoor.T
