/- GlobsPaths: what Path fits Match fits, that a pattern without / fits nothing with one, and that both are one where there is neither a / nor a . at a beginning: the law returns true, for all patterns and texts. -/
import Derived.Test.YtjbdpahdhlmanaaGlL
import Derived.Test.YtjbdpahdhlmanaaGlO
import Derived.Test.YtjbdpahdhlmanaaGlW
import Derived.ChangeMaps5
namespace Go.Proofs.Ytjbdpahdhlmanaa.globsPaths
open Go.ChangeShapes Go.WideShapes Go.ChangeAt Go.RowKit Go.Proofs.Ytjbdpahdhlmanaa Go.Proofs.Ytjbdpahdhlmanaa.Hp Go.Proofs.Ytjbdpahdhlmanaa.Globs
open Go.ChangeMaps (open_string shut_string)
set_option linter.unusedVariables false

def PRel1 (s : ByteArray) (W : World) (g : Nat) (hv iv : Value) (wr : World) : Prop := ∃ i : Nat, i + g = s.size ∧ hv = .bool (hdL (bs s) i) ∧ iv = .int .i64 (i : Int) ∧ wr = W
def PRel2 (p : List Itm) (W : World) (g : Nat) (sv kv : Value) (wr : World) : Prop := ∃ k : Nat, k + g = p.length ∧ sv = .bool (stL p k) ∧ kv = .int .i64 (k : Int) ∧ wr = W
def PRel3 (s : ByteArray) (w2 : World) (g : Nat) (iv : Value) (wr : World) : Prop := ∃ i : Nat, i + g = s.size ∧ iv = .int .i64 (i : Int) ∧ Below w2.heap.size w2 wr
theorem bs_getD (s : ByteArray) (i : Nat) (h : i < s.size) : (bs s).getD i 0 = s[i] := by rw [List.getD_eq_getElem?_getD, bs_get s i h]; rfl
set_option maxRecDepth 100000 in
set_option maxHeartbeats 8000000 in
theorem walk (ap : Option Addr) (cp : Nat) (p : List Itm) (s : ByteArray) (W : World) (hp : ItemsAt W ap p) (hs : (s.size : Int) ≤ 9223372036854775807) :
    Calls Try.prog 7 #[.slice ap p.length cp, .string s] W fun e w' => e = .returned (.bool true) ∧ Below W.heap.size W w' := by
  have hpl := hp.1
  by_cases hfp : Few p
  · by_cases h100 : s.size ≤ 100
    · have e3 : (s.size : Int) ≤ 100 := by omega
      go_enter Try.func7, Try.ntmps7
      go_wp2_with fail
      refine (few_yes _ _ _ p (by exact hp) hfp).mono ?_
      rintro e w1 ⟨rfl, rfl⟩
      go_wp2_with fail
      go_loopg [5, 6] (s.size) (PRel1 s W)
      case atStart => exact ⟨0, by omega, rfl, rfl, rfl⟩
      case round =>
        obtain ⟨i, hig, rfl, rfl, rfl⟩ := hrel
        have hi0 : (0 : Int) ≤ i := by omega
        by_cases hi : i < s.size
        · have hil : (i : Int) < s.size := by omega
          have hnx : hdL (bs s) (i + 1) = (hdL (bs s) i || (s[i] == 47 || (s[i] == 46 && i == 0))) := by
            show (hdL (bs s) i || ((bs s).getD i 0 == 47 || ((bs s).getD i 0 == 46 && i == 0))) = _
            rw [bs_getD s i hi]
          have g1 := u8_lit s[i] 47 (by omega)
          have g2 := u8_lit s[i] 46 (by omega)
          rw [show ((47 : Nat) : Int) = 47 from rfl, show UInt8.ofNat 47 = 47 from rfl] at g1
          rw [show ((46 : Nat) : Int) = 46 from rfl, show UInt8.ofNat 46 = 46 from rfl] at g2
          have g3 : ((i : Int) == 0) = (i == 0) := by rw [Bool.eq_iff_iff, beq_iff_eq, beq_iff_eq]; omega
          have Hnx := Lib.hid hnx
          have Hig := Lib.hid hig
          clear hnx hig hp hpl hfp
          generalize hdL (bs s) i = h at *
          generalize (s[i] == 47) = x at *
          generalize (s[i] == 46) = y at *
          generalize hz : (i == 0) = z at *
          clear hz
          cases h
          · cases x
            · cases y
              · clear g3
                go_wp2_with fail
                go_roundg (gk - 1)
                case measure => have := Hig.out; omega
                case rel => exact ⟨i + 1, by have := Hig.out; omega, by rw [Hnx.out]; rfl, by go_num, rfl⟩
              · cases z
                · go_wp2_with fail
                  go_roundg (gk - 1)
                  case measure => have := Hig.out; omega
                  case rel => exact ⟨i + 1, by have := Hig.out; omega, by rw [Hnx.out]; rfl, by go_num, rfl⟩
                · go_wp2_with fail
                  go_roundg (gk - 1)
                  case measure => have := Hig.out; omega
                  case rel => exact ⟨i + 1, by have := Hig.out; omega, by rw [Hnx.out]; rfl, by go_num, rfl⟩
            · clear g2 g3
              go_wp2_with fail
              go_roundg (gk - 1)
              case measure => have := Hig.out; omega
              case rel => exact ⟨i + 1, by have := Hig.out; omega, by rw [Hnx.out]; rfl, by go_num, rfl⟩
          · clear g1 g2 g3
            go_wp2_with fail
            go_roundg (gk - 1)
            case measure => have := Hig.out; omega
            case rel => exact ⟨i + 1, by have := Hig.out; omega, by rw [Hnx.out]; rfl, by go_num, rfl⟩
        · have hge : ¬ ((i : Int) < s.size) := by omega
          obtain rfl : i = s.size := by omega
          have hhd : hdL (bs s) s.size = false → pathB p (bs s) = matchB p (bs s) := fun h => path_same p (bs s) (hard_of_hdL (by rw [bs_length]; exact h))
          generalize hdL (bs s) s.size = hard at *
          clear hig
          go_wp2_with fail
          go_loopg [7, 8] (p.length) (PRel2 p wr)
          case atStart => exact ⟨0, by omega, rfl, rfl, rfl⟩
          case round =>
            obtain ⟨k, hkg, rfl, rfl, rfl⟩ := hrel
            have hk0 : (0 : Int) ≤ k := by omega
            by_cases hk : k < p.length
            · have hkl : (k : Int) < p.length := by omega
              obtain ⟨b, o, ra, rc, rfl, hb, c0, c1, c2, c3, hr⟩ := hp.2 k hk
              have hnx : stL p (k + 1) = (stL p k || (p[k].kind == 1 && p[k].b == 47)) := by
                show (stL p k || ((p.getD k default).kind == 1 && (p.getD k default).b == 47)) = _
                rw [List.getD_eq_getElem?_getD, List.getElem?_eq_getElem hk]; rfl
              have g1 := u8_lit p[k].b 47 (by omega)
              rw [show ((47 : Nat) : Int) = 47 from rfl, show UInt8.ofNat 47 = 47 from rfl] at g1
              have Hnx := Lib.hid hnx
              have Hkg := Lib.hid hkg
              clear hnx hkg hp hr hhd hfp
              generalize p[k].kind = kd at *
              generalize p[k].b = pb at *
              generalize stL p k = h at *
              generalize hy : (pb == 47) = y at *
              generalize hx : (kd == 1) = x at *
              clear hy
              cases h
              · cases x
                · clear g1
                  go_wp2_with fail
                  go_roundg (gk - 1)
                  case measure => have := Hkg.out; omega
                  case rel => exact ⟨k + 1, by have := Hkg.out; omega, by rw [Hnx.out]; rfl, by go_num, rfl⟩
                · cases y
                  · go_wp2_with fail
                    go_roundg (gk - 1)
                    case measure => have := Hkg.out; omega
                    case rel => exact ⟨k + 1, by have := Hkg.out; omega, by rw [Hnx.out]; rfl, by go_num, rfl⟩
                  · go_wp2_with fail
                    go_roundg (gk - 1)
                    case measure => have := Hkg.out; omega
                    case rel => exact ⟨k + 1, by have := Hkg.out; omega, by rw [Hnx.out]; rfl, by go_num, rfl⟩
              · clear g1 hx
                go_wp2_with fail
                go_roundg (gk - 1)
                case measure => have := Hkg.out; omega
                case rel => exact ⟨k + 1, by have := Hkg.out; omega, by rw [Hnx.out]; rfl, by go_num, rfl⟩
            · have hge2 : ¬ ((k : Int) < p.length) := by omega
              obtain rfl : k = p.length := by omega
              have hst : pathB p (bs s) = true → ∀ i : Nat, (bs s)[i]? = some 47 → stL p p.length = true := fun h i hi => no_stroke h hi
              have hpm := path_match p (bs s)
              have PA := path_lit p s ap cp p.length wr _ rfl rfl hp (by omega)
              have MA := fun (W' : World) h => match_lit p s ap cp p.length W' _ rfl rfl h (by omega)
              clear hkg
              generalize pathB p (bs s) = a at *
              generalize matchB p (bs s) = b at *
              generalize stL p p.length = st at *
              have HPA := Lib.hid PA
              have HMA := Lib.hid MA
              clear PA MA hpl hfp
              go_wp2_with fail
              refine HPA.out.mono ?_
              rintro e w1 ⟨rfl, b1⟩
              have hp1 := hp.keep (Kept.below b1)
              have B1 := b1
              clear hp b1 HPA
              go_wp2_with fail
              refine (HMA.out _ (by exact hp1)).mono ?_
              rintro e w2 ⟨rfl, b2⟩
              have B2 := B1.trans (b2.mono B1.size)
              clear HMA B1 b2 hp1
              cases a
              · clear hst hpm
                cases b
                · clear hhd
                  cases hard
                  · cases st
                    ·
                      go_wp2_with fail
                      go_loopg [11] (s.size) (PRel3 s w2)
                      case atStart => exact ⟨0, by omega, rfl, Below.refl _ _⟩
                      case round =>
                        obtain ⟨i, hig, rfl, hbel⟩ := hrel
                        have hi0 : (0 : Int) ≤ i := by omega
                        by_cases hi : i < s.size
                        · have hil : (i : Int) < s.size := by omega
                          have Hig := Lib.hid hig
                          by_cases hc : s[i] = 47
                          · have e1 : ((s[i].toNat : Int) == 47) = true := by rw [hc]; rfl
                            skip
                            clear hig hc
                            go_wp2_with fail
                            go_roundg (gk - 1)
                            case measure => have := Hig.out; omega
                            case rel => exact ⟨i + 1, by have := Hig.out; omega, by go_num, hbel⟩
                          · have e1 : ((s[i].toNat : Int) == 47) = false := by have := u8_lit s[i] 47 (by omega); rw [show ((47 : Nat) : Int) = 47 from rfl] at this; rw [this]; simpa using hc
                            clear hig hc
                            go_wp2_with fail
                            go_roundg (gk - 1)
                            case measure => have := Hig.out; omega
                            case rel => exact ⟨i + 1, by have := Hig.out; omega, by go_num, hbel⟩
                        · have hge : ¬ ((i : Int) < s.size) := by omega
                          have hb3 := B2.trans (hbel.mono B2.size)
                          clear hig hbel
                          go_wp2_with fail
                          refine (awake_calls _).mono ?_
                          rintro e w7 ⟨rfl, b7⟩
                          go_wp2_with fail
                          go_ret
                          exact ⟨rfl, hb3.trans (b7.mono hb3.size)⟩
                    ·
                      go_wp2_with fail
                      go_loopg [11] (s.size) (PRel3 s w2)
                      case atStart => exact ⟨0, by omega, rfl, Below.refl _ _⟩
                      case round =>
                        obtain ⟨i, hig, rfl, hbel⟩ := hrel
                        have hi0 : (0 : Int) ≤ i := by omega
                        by_cases hi : i < s.size
                        · have hil : (i : Int) < s.size := by omega
                          have Hig := Lib.hid hig
                          by_cases hc : s[i] = 47
                          · have e1 : ((s[i].toNat : Int) == 47) = true := by rw [hc]; rfl
                            skip
                            clear hig hc
                            go_wp2_with fail
                            go_roundg (gk - 1)
                            case measure => have := Hig.out; omega
                            case rel => exact ⟨i + 1, by have := Hig.out; omega, by go_num, hbel⟩
                          · have e1 : ((s[i].toNat : Int) == 47) = false := by have := u8_lit s[i] 47 (by omega); rw [show ((47 : Nat) : Int) = 47 from rfl] at this; rw [this]; simpa using hc
                            clear hig hc
                            go_wp2_with fail
                            go_roundg (gk - 1)
                            case measure => have := Hig.out; omega
                            case rel => exact ⟨i + 1, by have := Hig.out; omega, by go_num, hbel⟩
                        · have hge : ¬ ((i : Int) < s.size) := by omega
                          have hb3 := B2.trans (hbel.mono B2.size)
                          clear hig hbel
                          go_wp2_with fail
                          refine (awake_calls _).mono ?_
                          rintro e w7 ⟨rfl, b7⟩
                          go_wp2_with fail
                          go_ret
                          exact ⟨rfl, hb3.trans (b7.mono hb3.size)⟩
                  · cases st
                    ·
                      go_wp2_with fail
                      go_loopg [11] (s.size) (PRel3 s w2)
                      case atStart => exact ⟨0, by omega, rfl, Below.refl _ _⟩
                      case round =>
                        obtain ⟨i, hig, rfl, hbel⟩ := hrel
                        have hi0 : (0 : Int) ≤ i := by omega
                        by_cases hi : i < s.size
                        · have hil : (i : Int) < s.size := by omega
                          have Hig := Lib.hid hig
                          by_cases hc : s[i] = 47
                          · have e1 : ((s[i].toNat : Int) == 47) = true := by rw [hc]; rfl
                            skip
                            clear hig hc
                            go_wp2_with fail
                            go_roundg (gk - 1)
                            case measure => have := Hig.out; omega
                            case rel => exact ⟨i + 1, by have := Hig.out; omega, by go_num, hbel⟩
                          · have e1 : ((s[i].toNat : Int) == 47) = false := by have := u8_lit s[i] 47 (by omega); rw [show ((47 : Nat) : Int) = 47 from rfl] at this; rw [this]; simpa using hc
                            clear hig hc
                            go_wp2_with fail
                            go_roundg (gk - 1)
                            case measure => have := Hig.out; omega
                            case rel => exact ⟨i + 1, by have := Hig.out; omega, by go_num, hbel⟩
                        · have hge : ¬ ((i : Int) < s.size) := by omega
                          have hb3 := B2.trans (hbel.mono B2.size)
                          clear hig hbel
                          go_wp2_with fail
                          refine (awake_calls _).mono ?_
                          rintro e w7 ⟨rfl, b7⟩
                          go_wp2_with fail
                          go_ret
                          exact ⟨rfl, hb3.trans (b7.mono hb3.size)⟩
                    ·
                      go_wp2_with fail
                      go_loopg [11] (s.size) (PRel3 s w2)
                      case atStart => exact ⟨0, by omega, rfl, Below.refl _ _⟩
                      case round =>
                        obtain ⟨i, hig, rfl, hbel⟩ := hrel
                        have hi0 : (0 : Int) ≤ i := by omega
                        by_cases hi : i < s.size
                        · have hil : (i : Int) < s.size := by omega
                          have Hig := Lib.hid hig
                          by_cases hc : s[i] = 47
                          · have e1 : ((s[i].toNat : Int) == 47) = true := by rw [hc]; rfl
                            skip
                            clear hig hc
                            go_wp2_with fail
                            go_roundg (gk - 1)
                            case measure => have := Hig.out; omega
                            case rel => exact ⟨i + 1, by have := Hig.out; omega, by go_num, hbel⟩
                          · have e1 : ((s[i].toNat : Int) == 47) = false := by have := u8_lit s[i] 47 (by omega); rw [show ((47 : Nat) : Int) = 47 from rfl] at this; rw [this]; simpa using hc
                            clear hig hc
                            go_wp2_with fail
                            go_roundg (gk - 1)
                            case measure => have := Hig.out; omega
                            case rel => exact ⟨i + 1, by have := Hig.out; omega, by go_num, hbel⟩
                        · have hge : ¬ ((i : Int) < s.size) := by omega
                          have hb3 := B2.trans (hbel.mono B2.size)
                          clear hig hbel
                          go_wp2_with fail
                          refine (awake_calls _).mono ?_
                          rintro e w7 ⟨rfl, b7⟩
                          go_wp2_with fail
                          go_ret
                          exact ⟨rfl, hb3.trans (b7.mono hb3.size)⟩
                · cases hard
                  · exact absurd (hhd rfl) (by simp)
                  · clear hhd
                    cases st
                    ·
                      go_wp2_with fail
                      go_loopg [11] (s.size) (PRel3 s w2)
                      case atStart => exact ⟨0, by omega, rfl, Below.refl _ _⟩
                      case round =>
                        obtain ⟨i, hig, rfl, hbel⟩ := hrel
                        have hi0 : (0 : Int) ≤ i := by omega
                        by_cases hi : i < s.size
                        · have hil : (i : Int) < s.size := by omega
                          have Hig := Lib.hid hig
                          by_cases hc : s[i] = 47
                          · have e1 : ((s[i].toNat : Int) == 47) = true := by rw [hc]; rfl
                            skip
                            clear hig hc
                            go_wp2_with fail
                            go_roundg (gk - 1)
                            case measure => have := Hig.out; omega
                            case rel => exact ⟨i + 1, by have := Hig.out; omega, by go_num, hbel⟩
                          · have e1 : ((s[i].toNat : Int) == 47) = false := by have := u8_lit s[i] 47 (by omega); rw [show ((47 : Nat) : Int) = 47 from rfl] at this; rw [this]; simpa using hc
                            clear hig hc
                            go_wp2_with fail
                            go_roundg (gk - 1)
                            case measure => have := Hig.out; omega
                            case rel => exact ⟨i + 1, by have := Hig.out; omega, by go_num, hbel⟩
                        · have hge : ¬ ((i : Int) < s.size) := by omega
                          have hb3 := B2.trans (hbel.mono B2.size)
                          clear hig hbel
                          go_wp2_with fail
                          refine (awake_calls _).mono ?_
                          rintro e w7 ⟨rfl, b7⟩
                          go_wp2_with fail
                          go_ret
                          exact ⟨rfl, hb3.trans (b7.mono hb3.size)⟩
                    ·
                      go_wp2_with fail
                      go_loopg [11] (s.size) (PRel3 s w2)
                      case atStart => exact ⟨0, by omega, rfl, Below.refl _ _⟩
                      case round =>
                        obtain ⟨i, hig, rfl, hbel⟩ := hrel
                        have hi0 : (0 : Int) ≤ i := by omega
                        by_cases hi : i < s.size
                        · have hil : (i : Int) < s.size := by omega
                          have Hig := Lib.hid hig
                          by_cases hc : s[i] = 47
                          · have e1 : ((s[i].toNat : Int) == 47) = true := by rw [hc]; rfl
                            skip
                            clear hig hc
                            go_wp2_with fail
                            go_roundg (gk - 1)
                            case measure => have := Hig.out; omega
                            case rel => exact ⟨i + 1, by have := Hig.out; omega, by go_num, hbel⟩
                          · have e1 : ((s[i].toNat : Int) == 47) = false := by have := u8_lit s[i] 47 (by omega); rw [show ((47 : Nat) : Int) = 47 from rfl] at this; rw [this]; simpa using hc
                            clear hig hc
                            go_wp2_with fail
                            go_roundg (gk - 1)
                            case measure => have := Hig.out; omega
                            case rel => exact ⟨i + 1, by have := Hig.out; omega, by go_num, hbel⟩
                        · have hge : ¬ ((i : Int) < s.size) := by omega
                          have hb3 := B2.trans (hbel.mono B2.size)
                          clear hig hbel
                          go_wp2_with fail
                          refine (awake_calls _).mono ?_
                          rintro e w7 ⟨rfl, b7⟩
                          go_wp2_with fail
                          go_ret
                          exact ⟨rfl, hb3.trans (b7.mono hb3.size)⟩
              · have hb := hpm rfl
                subst hb
                clear hhd hpm
                cases st
                · have hno : ∀ i : Nat, (bs s)[i]? ≠ some 47 := fun i hi => absurd (hst rfl i hi) (by simp)
                  have Hno := Lib.hid hno
                  clear hst hno
                  cases hard
                  ·
                    go_wp2_with fail
                    go_loopg [11] (s.size) (PRel3 s w2)
                    case atStart => exact ⟨0, by omega, rfl, Below.refl _ _⟩
                    case round =>
                      obtain ⟨i, hig, rfl, hbel⟩ := hrel
                      have hi0 : (0 : Int) ≤ i := by omega
                      by_cases hi : i < s.size
                      · have hil : (i : Int) < s.size := by omega
                        have Hig := Lib.hid hig
                        by_cases hc : s[i] = 47
                        · have e1 : ((s[i].toNat : Int) == 47) = true := by rw [hc]; rfl
                          exact absurd (by rw [bs_get s i hi, hc]) (Hno.out i)
                        · have e1 : ((s[i].toNat : Int) == 47) = false := by have := u8_lit s[i] 47 (by omega); rw [show ((47 : Nat) : Int) = 47 from rfl] at this; rw [this]; simpa using hc
                          clear hig hc
                          go_wp2_with fail
                          go_roundg (gk - 1)
                          case measure => have := Hig.out; omega
                          case rel => exact ⟨i + 1, by have := Hig.out; omega, by go_num, hbel⟩
                      · have hge : ¬ ((i : Int) < s.size) := by omega
                        have hb3 := B2.trans (hbel.mono B2.size)
                        clear hig hbel
                        go_wp2_with fail
                        refine (awake_calls _).mono ?_
                        rintro e w7 ⟨rfl, b7⟩
                        go_wp2_with fail
                        go_ret
                        exact ⟨rfl, hb3.trans (b7.mono hb3.size)⟩
                  ·
                    go_wp2_with fail
                    go_loopg [11] (s.size) (PRel3 s w2)
                    case atStart => exact ⟨0, by omega, rfl, Below.refl _ _⟩
                    case round =>
                      obtain ⟨i, hig, rfl, hbel⟩ := hrel
                      have hi0 : (0 : Int) ≤ i := by omega
                      by_cases hi : i < s.size
                      · have hil : (i : Int) < s.size := by omega
                        have Hig := Lib.hid hig
                        by_cases hc : s[i] = 47
                        · have e1 : ((s[i].toNat : Int) == 47) = true := by rw [hc]; rfl
                          exact absurd (by rw [bs_get s i hi, hc]) (Hno.out i)
                        · have e1 : ((s[i].toNat : Int) == 47) = false := by have := u8_lit s[i] 47 (by omega); rw [show ((47 : Nat) : Int) = 47 from rfl] at this; rw [this]; simpa using hc
                          clear hig hc
                          go_wp2_with fail
                          go_roundg (gk - 1)
                          case measure => have := Hig.out; omega
                          case rel => exact ⟨i + 1, by have := Hig.out; omega, by go_num, hbel⟩
                      · have hge : ¬ ((i : Int) < s.size) := by omega
                        have hb3 := B2.trans (hbel.mono B2.size)
                        clear hig hbel
                        go_wp2_with fail
                        refine (awake_calls _).mono ?_
                        rintro e w7 ⟨rfl, b7⟩
                        go_wp2_with fail
                        go_ret
                        exact ⟨rfl, hb3.trans (b7.mono hb3.size)⟩
                · clear hst
                  cases hard
                  ·
                    go_wp2_with fail
                    go_loopg [11] (s.size) (PRel3 s w2)
                    case atStart => exact ⟨0, by omega, rfl, Below.refl _ _⟩
                    case round =>
                      obtain ⟨i, hig, rfl, hbel⟩ := hrel
                      have hi0 : (0 : Int) ≤ i := by omega
                      by_cases hi : i < s.size
                      · have hil : (i : Int) < s.size := by omega
                        have Hig := Lib.hid hig
                        by_cases hc : s[i] = 47
                        · have e1 : ((s[i].toNat : Int) == 47) = true := by rw [hc]; rfl
                          skip
                          clear hig hc
                          go_wp2_with fail
                          go_roundg (gk - 1)
                          case measure => have := Hig.out; omega
                          case rel => exact ⟨i + 1, by have := Hig.out; omega, by go_num, hbel⟩
                        · have e1 : ((s[i].toNat : Int) == 47) = false := by have := u8_lit s[i] 47 (by omega); rw [show ((47 : Nat) : Int) = 47 from rfl] at this; rw [this]; simpa using hc
                          clear hig hc
                          go_wp2_with fail
                          go_roundg (gk - 1)
                          case measure => have := Hig.out; omega
                          case rel => exact ⟨i + 1, by have := Hig.out; omega, by go_num, hbel⟩
                      · have hge : ¬ ((i : Int) < s.size) := by omega
                        have hb3 := B2.trans (hbel.mono B2.size)
                        clear hig hbel
                        go_wp2_with fail
                        refine (awake_calls _).mono ?_
                        rintro e w7 ⟨rfl, b7⟩
                        go_wp2_with fail
                        go_ret
                        exact ⟨rfl, hb3.trans (b7.mono hb3.size)⟩
                  ·
                    go_wp2_with fail
                    go_loopg [11] (s.size) (PRel3 s w2)
                    case atStart => exact ⟨0, by omega, rfl, Below.refl _ _⟩
                    case round =>
                      obtain ⟨i, hig, rfl, hbel⟩ := hrel
                      have hi0 : (0 : Int) ≤ i := by omega
                      by_cases hi : i < s.size
                      · have hil : (i : Int) < s.size := by omega
                        have Hig := Lib.hid hig
                        by_cases hc : s[i] = 47
                        · have e1 : ((s[i].toNat : Int) == 47) = true := by rw [hc]; rfl
                          skip
                          clear hig hc
                          go_wp2_with fail
                          go_roundg (gk - 1)
                          case measure => have := Hig.out; omega
                          case rel => exact ⟨i + 1, by have := Hig.out; omega, by go_num, hbel⟩
                        · have e1 : ((s[i].toNat : Int) == 47) = false := by have := u8_lit s[i] 47 (by omega); rw [show ((47 : Nat) : Int) = 47 from rfl] at this; rw [this]; simpa using hc
                          clear hig hc
                          go_wp2_with fail
                          go_roundg (gk - 1)
                          case measure => have := Hig.out; omega
                          case rel => exact ⟨i + 1, by have := Hig.out; omega, by go_num, hbel⟩
                      · have hge : ¬ ((i : Int) < s.size) := by omega
                        have hb3 := B2.trans (hbel.mono B2.size)
                        clear hig hbel
                        go_wp2_with fail
                        refine (awake_calls _).mono ?_
                        rintro e w7 ⟨rfl, b7⟩
                        go_wp2_with fail
                        go_ret
                        exact ⟨rfl, hb3.trans (b7.mono hb3.size)⟩
    · have e3 : ¬ ((s.size : Int) ≤ 100) := by omega
      go_enter Try.func7, Try.ntmps7
      go_wp2_with fail
      refine (few_yes _ _ _ p (by exact hp) hfp).mono ?_
      rintro e w1 ⟨rfl, rfl⟩
      go_wp2_with fail
      refine (awake_calls _).mono ?_
      rintro e w7 ⟨rfl, b7⟩
      go_wp2_with fail
      go_ret
      exact ⟨rfl, b7⟩
  · go_enter Try.func7, Try.ntmps7
    go_wp2_with fail
    refine (few_no _ _ _ p (by exact hp) hfp).mono ?_
    rintro e w1 ⟨rfl, rfl⟩
    go_wp2_with fail
    refine (awake_calls _).mono ?_
    rintro e w7 ⟨rfl, b7⟩
    go_wp2_with fail
    go_ret
    exact ⟨rfl, b7⟩

set_option maxRecDepth 100000 in
theorem lifted (os : Os) (started : os.Started) (H : Type) (enc : TypeId × Value → H) :
    ReturnsInHanded {} Try.checked os 7 .any (Rows.globsPathsSpec.pre6 enc Try.prog Try.f7 Rows.globsPathsRow.domain false) (Rows.globsPathsSpec.post enc Try.prog Try.f7 false true false false) := by
  refine returnsInHanded_of_change (C := Try.checked) own started (by kernel_rfl) Try.func7
    (ChangeSpec.witness6 (enc := enc) (C := Try.checked) false ⟨#[], #[.slice none 0 0, .string ⟨#[]⟩], []⟩ 8 (by kernel_rfl) (by kernel_rfl) (by kernel_rfl) (by kernel_rfl)) ?_
  intro W base args ds gs before hval0 hW hcnd _
  have hval : ∀ (j : Nat) t v, Try.f7.params[j]? = some t → args[j]? = some v → Value.okWide Try.prog W .any base t v := hval0
  have hW' := hW
  obtain ⟨p, q, hA0, hV, rfl, hfz, hnd⟩ := hW
  have hA : DataW.TrodAll enc Try.prog W 0 (fun _ => true) true Try.f7.params.toList args.toList ds p := hA0
  rw [Try.params7] at hA hval
  obtain ⟨v0, vs0, d0, ds0, p0, q0, hargs, rfl, rfl, h0, r0⟩ := trodAll_cons hA
  obtain ⟨v1, vs1, d1, ds1, p1, q1, rfl, rfl, rfl, h1, r1⟩ := trodAll_cons r0
  obtain ⟨rfl, rfl, rfl⟩ := trodAll_nil r1
  obtain rfl : args = #[v0, v1] := by cases args; simp_all
  obtain ⟨rfl, rfl⟩ := trodVars_none hV
  have k0 := h0
  have lt0 : ∀ x ∈ p0, x.block < W.heap.size := by obtain ⟨m, hm⟩ := k0; exact DataW.trod_lt m _ _ _ hm
  obtain ⟨ao0, l0, cap0, rfl, w0⟩ := items_open (hval 0 24 v0 rfl rfl) h0
  obtain ⟨s1, rfl, rfl, rfl, w1⟩ := open_string Try.underlying9 (hval 1 9 v1 rfl rfl) h1
  clear hA0 hval0
  refine (walk ao0 cap0 l0 s1 W w0.1 (by unfold maxLen at w1; omega)).mono fun e W' ⟨he, bel⟩ => ?_
  subst he
  exact ⟨_, rfl, _, _, _, [], _, [], hW', trodAll_mk1 (shut_bool Try.underlying4 _), (trodAll_cons_mk (Below.trod laidOut (by kernel_rfl) (of_decide_eq_true (by kernel_rfl)) k0 bel lt0) (trodAll_cons_mk (shut_string Try.underlying9 w1) trodAll_mk0)), rfl, bel.frame _, fun h => by cases h⟩

theorem over : Rows.globsPathsRow.holds Try.pinned (OpenSpec.ofChange Rows.globsPathsSpec) :=
  OpenClaim.holds_of_wide 7 Try.f7 rfl rfl rfl rfl rfl rfl rfl ⟨rfl, rfl, rfl, rfl, rfl⟩ rfl rfl rfl rfl rfl (by kernel_rfl) Try.func7 (by kernel_rfl)
    (of_decide_eq_true (by kernel_rfl)) (by unfold Func.isWrapper; first | (rw [if_pos (by decide +kernel)]; kernel_rfl) | (rw [if_neg (by decide +kernel)]; exact ⟨rfl, rfl⟩))
    (fun os started H enc _ => lifted os started H enc)

theorem proved : Rows.GlobsPathsSaid := over
#print axioms proved
end Go.Proofs.Ytjbdpahdhlmanaa.globsPaths
