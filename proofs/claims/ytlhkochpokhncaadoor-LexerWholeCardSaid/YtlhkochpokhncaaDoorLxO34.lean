/- Rounds of scan within the frame 34. -/
import Derived.Test.YtlhkochpokhncaaDoorLxO
namespace Go.Proofs.YtlhkochpokhncaaDoor.Lexer
open Go.RowKit Go.Proofs.YtlhkochpokhncaaDoor Go.Proofs.YtlhkochpokhncaaDoor.Hp
set_option linter.unusedVariables false
attribute [local go_sem] Oper.semAt_some

set_option maxRecDepth 100000 in
set_option maxHeartbeats 8000000 in
theorem scan_34_0 {s : ByteArray} {wd : Bool} {T : Option Bytes} {w wr : World} {gk k b o cap : Nat} {c : UInt8} {rest : List UInt8} {fv u6 u8 u9 u10 v11 v12 u13 u14 u15 u16 u17 u18 u19 u20 u21 u22 u23 u24 u25 u26 u27 u28 u29 u30 u31 u32 u33 u34 u35 u36 u37 u38 u39 u40 u41 u42 u43 u44 u45 u46 u47 u48 u49 u50 u51 u52 u53 u54 u55 u56 u57 u58 u59 u60 u61 u62 u63 u64 u65 u66 u67 u68 u69 u70 u71 u72 u73 u74 u75 u76 u77 u78 u79 u80 u81 u82 u83 u84 u85 u86 u87 u88 u89 u90 u91 u92 u93 u94 u95 u96 u97 u98 u99 u100 u101 u102 u103 u104 u105 u106 u107 u108 u109 u110 u111 u112 u113 u114 u115 u116 u117 u118 u119 u120 u121 u122 u123 u124 u125 u126 u127 u128 u129 u130 u131 u132 u133 u134 u135 u136 u137 u138 u139 u140 u141 u142 u143 u144 u145 u146 u147 u148 u149 u150 u151 : Value} {J : Nat → Act → World → Prop} {K K1 : Act → World → Prop}
    (hJ : ∀ k' a' w', ScJ s fv v11 v12 wd T w k' a' w' → J k' a' w') (hK : ∀ a' w', Handed J gk a' w' → K a' w') (X : ScCtx s wd T w wr gk k b o cap 34 c rest) (ce : c = 92) (hl2 : k + 1 = s.size) :
    Code.wp Tryd.prog (cLp (cB (cL (cR (cR (Tryd.f35.body.getD .skip)))))) (Exit.then K (Exit.inBlock 0 (Exit.then K1 (scanPost s T w)))) { tmps := #[.string s, .int .i64 (k : Int), fv, undef, undef, undef, u6, .slice (some ⟨b, o, none⟩) (rest.length + 1) cap, u8, u9, u10, v11, v12, u13, u14, u15, u16, u17, u18, u19, u20, u21, u22, u23, u24, u25, u26, u27, u28, u29, u30, u31, u32, u33, u34, u35, u36, u37, u38, u39, u40, u41, u42, u43, u44, u45, u46, u47, u48, u49, u50, u51, u52, u53, u54, u55, u56, u57, u58, u59, u60, u61, u62, u63, u64, u65, u66, u67, u68, u69, u70, u71, u72, u73, u74, u75, u76, u77, u78, u79, u80, u81, u82, u83, u84, u85, u86, u87, u88, u89, u90, u91, u92, u93, u94, u95, u96, u97, u98, u99, u100, u101, u102, u103, u104, u105, u106, u107, u108, u109, u110, u111, u112, u113, u114, u115, u116, u117, u118, u119, u120, u121, u122, u123, u124, u125, u126, u127, u128, u129, u130, u131, u132, u133, u134, u135, u136, u137, u138, u139, u140, u141, u142, u143, u144, u145, u146, u147, u148, u149, u150, u151, undef, undef, undef, undef, undef, undef, undef, undef, undef, undef], defers := [] } wr := by
  obtain ⟨hs, hlt, hd, hc0, hlen, hcap, hS, hR, hDS, hg⟩ := X
  have hc := hc0 hlt
  have Hs := Lib.hid hs
  have hsz : (s.size : Int) ≤ 1000000 := hs
  have hk : k ≤ s.size := by omega
  have hk0 : (0 : Int) ≤ k := by omega
  have hkI : (k : Int) ≤ s.size := by omega
  have hltI : (k : Int) < s.size := by omega
  have ct0 := stk_top hS
  have hrl0 : (0 : Int) ≤ (rest.length : Nat) := by omega
  have hcapI : ((rest.length : Nat) : Int) + 1 ≤ cap := by omega
  have hrl1 : ((rest.length : Nat) : Int) ≤ 1000001 := by omega
  have HO := Lib.hid (fun w => Operator_calls s Hs.out k w hk)
  clear hc0 hs
  dsimp only [cLp, cB, cL, cR, Tryd.f35, Option.getD]
  have hl2B : ((k : Int) + 1 == s.size) = true := by rw [beq_iff_eq]; omega
  have hl0 : (bs s).drop (k + 1) = [] := drop_end s (k + 1) (by omega)
  have b34 : (((s[k].toNat : Nat) : Int) == 34) = false := by rw [q34, ← hc, ce]; rfl
  have b39 : (((s[k].toNat : Nat) : Int) == 39) = false := by rw [q39, ← hc, ce]; rfl
  have b40 : (((s[k].toNat : Nat) : Int) == 40) = false := by rw [q40, ← hc, ce]; rfl
  have b41 : (((s[k].toNat : Nat) : Int) == 41) = false := by rw [q41, ← hc, ce]; rfl
  have b92 : (((s[k].toNat : Nat) : Int) == 92) = true := by rw [q92, ← hc, ce]; rfl
  have b96 : (((s[k].toNat : Nat) : Int) == 96) = false := by rw [q96, ← hc, ce]; rfl
  have b125 : (((s[k].toNat : Nat) : Int) == 125) = false := by rw [q125, ← hc, ce]; rfl
  have hstp : stp 34 (c :: (bs s).drop (k + 1)) = none := by rw [hl0]; simp [stp_cons, ce]
  have hT := dst_none hDS (by decide) hstp
  have HT := Lib.hid hT
  have HS0 := Lib.hid hS
  have HG := Lib.hid hg
  have HL := Lib.hid (And.intro hlen hk)
  clear hDS hS hg hlen hd hc
  go_wp2_with fail
  go_ret
  exact ⟨by rw [HT.out]; rfl, Ran.whole' hR HS0.out.right⟩
set_option maxRecDepth 100000 in
set_option maxHeartbeats 8000000 in
theorem scan_34_1 {s : ByteArray} {wd : Bool} {T : Option Bytes} {w wr : World} {gk k b o cap : Nat} {c : UInt8} {rest : List UInt8} {fv u6 u8 u9 u10 v11 v12 u13 u14 u15 u16 u17 u18 u19 u20 u21 u22 u23 u24 u25 u26 u27 u28 u29 u30 u31 u32 u33 u34 u35 u36 u37 u38 u39 u40 u41 u42 u43 u44 u45 u46 u47 u48 u49 u50 u51 u52 u53 u54 u55 u56 u57 u58 u59 u60 u61 u62 u63 u64 u65 u66 u67 u68 u69 u70 u71 u72 u73 u74 u75 u76 u77 u78 u79 u80 u81 u82 u83 u84 u85 u86 u87 u88 u89 u90 u91 u92 u93 u94 u95 u96 u97 u98 u99 u100 u101 u102 u103 u104 u105 u106 u107 u108 u109 u110 u111 u112 u113 u114 u115 u116 u117 u118 u119 u120 u121 u122 u123 u124 u125 u126 u127 u128 u129 u130 u131 u132 u133 u134 u135 u136 u137 u138 u139 u140 u141 u142 u143 u144 u145 u146 u147 u148 u149 u150 u151 : Value} {J : Nat → Act → World → Prop} {K K1 : Act → World → Prop}
    (hJ : ∀ k' a' w', ScJ s fv v11 v12 wd T w k' a' w' → J k' a' w') (hK : ∀ a' w', Handed J gk a' w' → K a' w') (X : ScCtx s wd T w wr gk k b o cap 34 c rest) (ce : c = 92) (hl2 : k + 1 ≠ s.size) :
    Code.wp Tryd.prog (cLp (cB (cL (cR (cR (Tryd.f35.body.getD .skip)))))) (Exit.then K (Exit.inBlock 0 (Exit.then K1 (scanPost s T w)))) { tmps := #[.string s, .int .i64 (k : Int), fv, undef, undef, undef, u6, .slice (some ⟨b, o, none⟩) (rest.length + 1) cap, u8, u9, u10, v11, v12, u13, u14, u15, u16, u17, u18, u19, u20, u21, u22, u23, u24, u25, u26, u27, u28, u29, u30, u31, u32, u33, u34, u35, u36, u37, u38, u39, u40, u41, u42, u43, u44, u45, u46, u47, u48, u49, u50, u51, u52, u53, u54, u55, u56, u57, u58, u59, u60, u61, u62, u63, u64, u65, u66, u67, u68, u69, u70, u71, u72, u73, u74, u75, u76, u77, u78, u79, u80, u81, u82, u83, u84, u85, u86, u87, u88, u89, u90, u91, u92, u93, u94, u95, u96, u97, u98, u99, u100, u101, u102, u103, u104, u105, u106, u107, u108, u109, u110, u111, u112, u113, u114, u115, u116, u117, u118, u119, u120, u121, u122, u123, u124, u125, u126, u127, u128, u129, u130, u131, u132, u133, u134, u135, u136, u137, u138, u139, u140, u141, u142, u143, u144, u145, u146, u147, u148, u149, u150, u151, undef, undef, undef, undef, undef, undef, undef, undef, undef, undef], defers := [] } wr := by
  obtain ⟨hs, hlt, hd, hc0, hlen, hcap, hS, hR, hDS, hg⟩ := X
  have hc := hc0 hlt
  have Hs := Lib.hid hs
  have hsz : (s.size : Int) ≤ 1000000 := hs
  have hk : k ≤ s.size := by omega
  have hk0 : (0 : Int) ≤ k := by omega
  have hkI : (k : Int) ≤ s.size := by omega
  have hltI : (k : Int) < s.size := by omega
  have ct0 := stk_top hS
  have hrl0 : (0 : Int) ≤ (rest.length : Nat) := by omega
  have hcapI : ((rest.length : Nat) : Int) + 1 ≤ cap := by omega
  have hrl1 : ((rest.length : Nat) : Int) ≤ 1000001 := by omega
  have HO := Lib.hid (fun w => Operator_calls s Hs.out k w hk)
  clear hc0 hs
  dsimp only [cLp, cB, cL, cR, Tryd.f35, Option.getD]
  have hl2B : ((k : Int) + 1 == s.size) = false := by rw [beq_eq_false_iff_ne]; omega
  have hk2 : k + 1 < s.size := by omega
  have hl1 := bs_drop s (k + 1) hk2
  have b34 : (((s[k].toNat : Nat) : Int) == 34) = false := by rw [q34, ← hc, ce]; rfl
  have b39 : (((s[k].toNat : Nat) : Int) == 39) = false := by rw [q39, ← hc, ce]; rfl
  have b40 : (((s[k].toNat : Nat) : Int) == 40) = false := by rw [q40, ← hc, ce]; rfl
  have b41 : (((s[k].toNat : Nat) : Int) == 41) = false := by rw [q41, ← hc, ce]; rfl
  have b92 : (((s[k].toNat : Nat) : Int) == 92) = true := by rw [q92, ← hc, ce]; rfl
  have b96 : (((s[k].toNat : Nat) : Int) == 96) = false := by rw [q96, ← hc, ce]; rfl
  have b125 : (((s[k].toNat : Nat) : Int) == 125) = false := by rw [q125, ← hc, ce]; rfl
  have hstp : stp 34 (c :: (bs s).drop (k + 1)) = some ([34], ((bs s).drop (k + 2))) := by rw [hl1]; simp [stp_cons, ce]
  have hDS2 := dst_step hDS (by decide) hstp (by decide)
  have HD2 := Lib.hid hDS2
  have HS0 := Lib.hid hS
  have HG := Lib.hid hg
  have HL := Lib.hid (And.intro hlen hk)
  clear hDS hS hg hlen hd hc
  go_wp2_with fail
  go_roundg (gk - 1)
  case measure => have := HG.out; omega
  case rel => exact ⟨k + 2, 34 :: rest, some ⟨b, o, none⟩, cap, by go_num, rfl, by omega, by simp, by have := HL.out.1; show rest.length + 1 ≤ _; omega, HS0.out, hR, HD2.out, by have := HG.out; omega⟩
set_option maxRecDepth 100000 in
set_option maxHeartbeats 8000000 in
theorem scan_34_2 {s : ByteArray} {wd : Bool} {T : Option Bytes} {w wr : World} {gk k b o cap : Nat} {c : UInt8} {rest : List UInt8} {fv u6 u8 u9 u10 v11 v12 u13 u14 u15 u16 u17 u18 u19 u20 u21 u22 u23 u24 u25 u26 u27 u28 u29 u30 u31 u32 u33 u34 u35 u36 u37 u38 u39 u40 u41 u42 u43 u44 u45 u46 u47 u48 u49 u50 u51 u52 u53 u54 u55 u56 u57 u58 u59 u60 u61 u62 u63 u64 u65 u66 u67 u68 u69 u70 u71 u72 u73 u74 u75 u76 u77 u78 u79 u80 u81 u82 u83 u84 u85 u86 u87 u88 u89 u90 u91 u92 u93 u94 u95 u96 u97 u98 u99 u100 u101 u102 u103 u104 u105 u106 u107 u108 u109 u110 u111 u112 u113 u114 u115 u116 u117 u118 u119 u120 u121 u122 u123 u124 u125 u126 u127 u128 u129 u130 u131 u132 u133 u134 u135 u136 u137 u138 u139 u140 u141 u142 u143 u144 u145 u146 u147 u148 u149 u150 u151 : Value} {J : Nat → Act → World → Prop} {K K1 : Act → World → Prop}
    (hJ : ∀ k' a' w', ScJ s fv v11 v12 wd T w k' a' w' → J k' a' w') (hK : ∀ a' w', Handed J gk a' w' → K a' w') (X : ScCtx s wd T w wr gk k b o cap 34 c rest) (ce : c = 34) :
    Code.wp Tryd.prog (cLp (cB (cL (cR (cR (Tryd.f35.body.getD .skip)))))) (Exit.then K (Exit.inBlock 0 (Exit.then K1 (scanPost s T w)))) { tmps := #[.string s, .int .i64 (k : Int), fv, undef, undef, undef, u6, .slice (some ⟨b, o, none⟩) (rest.length + 1) cap, u8, u9, u10, v11, v12, u13, u14, u15, u16, u17, u18, u19, u20, u21, u22, u23, u24, u25, u26, u27, u28, u29, u30, u31, u32, u33, u34, u35, u36, u37, u38, u39, u40, u41, u42, u43, u44, u45, u46, u47, u48, u49, u50, u51, u52, u53, u54, u55, u56, u57, u58, u59, u60, u61, u62, u63, u64, u65, u66, u67, u68, u69, u70, u71, u72, u73, u74, u75, u76, u77, u78, u79, u80, u81, u82, u83, u84, u85, u86, u87, u88, u89, u90, u91, u92, u93, u94, u95, u96, u97, u98, u99, u100, u101, u102, u103, u104, u105, u106, u107, u108, u109, u110, u111, u112, u113, u114, u115, u116, u117, u118, u119, u120, u121, u122, u123, u124, u125, u126, u127, u128, u129, u130, u131, u132, u133, u134, u135, u136, u137, u138, u139, u140, u141, u142, u143, u144, u145, u146, u147, u148, u149, u150, u151, undef, undef, undef, undef, undef, undef, undef, undef, undef, undef], defers := [] } wr := by
  obtain ⟨hs, hlt, hd, hc0, hlen, hcap, hS, hR, hDS, hg⟩ := X
  have hc := hc0 hlt
  have Hs := Lib.hid hs
  have hsz : (s.size : Int) ≤ 1000000 := hs
  have hk : k ≤ s.size := by omega
  have hk0 : (0 : Int) ≤ k := by omega
  have hkI : (k : Int) ≤ s.size := by omega
  have hltI : (k : Int) < s.size := by omega
  have ct0 := stk_top hS
  have hrl0 : (0 : Int) ≤ (rest.length : Nat) := by omega
  have hcapI : ((rest.length : Nat) : Int) + 1 ≤ cap := by omega
  have hrl1 : ((rest.length : Nat) : Int) ≤ 1000001 := by omega
  have HO := Lib.hid (fun w => Operator_calls s Hs.out k w hk)
  clear hc0 hs
  dsimp only [cLp, cB, cL, cR, Tryd.f35, Option.getD]
  have b34 : (((s[k].toNat : Nat) : Int) == 34) = true := by rw [q34, ← hc, ce]; rfl
  have b39 : (((s[k].toNat : Nat) : Int) == 39) = false := by rw [q39, ← hc, ce]; rfl
  have b40 : (((s[k].toNat : Nat) : Int) == 40) = false := by rw [q40, ← hc, ce]; rfl
  have b41 : (((s[k].toNat : Nat) : Int) == 41) = false := by rw [q41, ← hc, ce]; rfl
  have b92 : (((s[k].toNat : Nat) : Int) == 92) = false := by rw [q92, ← hc, ce]; rfl
  have b96 : (((s[k].toNat : Nat) : Int) == 96) = false := by rw [q96, ← hc, ce]; rfl
  have b125 : (((s[k].toNat : Nat) : Int) == 125) = false := by rw [q125, ← hc, ce]; rfl
  have hstp : stp 34 (c :: (bs s).drop (k + 1)) = some ([], ((bs s).drop (k + 1))) := by simp [stp_cons, ce]
  have hDS2 := dst_step hDS (by decide) hstp (by decide)
  have HD2 := Lib.hid hDS2
  by_cases hrest : rest = []
  · have hrl : (((rest.length : Nat) : Int) == 0) = true := by rw [hrest]; rfl
    have ctz : wr.cell? ⟨b, o, none⟩ = some (u8V 34) := by have := ct0; rw [hrest] at this; exact this
    have hv : pl s.size T = (k : Int) + 1 := by subst hrest; rw [dst_empty hDS2]; exact (pl_some s (k + 1) (by omega)).trans (by omega)
    have HV := Lib.hid hv
    clear hv
    have HS0 := Lib.hid hS
    have HG := Lib.hid hg
    have HL := Lib.hid (And.intro hlen hk)
    clear hDS hS hg hlen hd hc
    go_wp2_with fail
    go_ret
    exact ⟨by rw [HV.out]; rfl, Ran.whole' hR HS0.out.right⟩
  · have hrl : (((rest.length : Nat) : Int) == 0) = false := by rw [beq_eq_false_iff_ne]; intro e; exact hrest (List.length_eq_zero_iff.1 (by omega))
    have HS0 := Lib.hid hS
    have HG := Lib.hid hg
    have HL := Lib.hid (And.intro hlen hk)
    clear hDS hS hg hlen hd hc
    go_wp2_with fail
    go_roundg (gk - 1)
    case measure => have := HG.out; omega
    case rel => exact ⟨k + 1, rest, some ⟨b, o, none⟩, cap, by go_num, rfl, by omega, hrest, by have := HL.out.1; omega, stk_pop HS0.out, hR, HD2.out, by have := HG.out; omega⟩
set_option maxRecDepth 100000 in
set_option maxHeartbeats 8000000 in
theorem scan_34_3 {s : ByteArray} {wd : Bool} {T : Option Bytes} {w wr : World} {gk k b o cap : Nat} {c : UInt8} {rest : List UInt8} {fv u6 u8 u9 u10 v11 v12 u13 u14 u15 u16 u17 u18 u19 u20 u21 u22 u23 u24 u25 u26 u27 u28 u29 u30 u31 u32 u33 u34 u35 u36 u37 u38 u39 u40 u41 u42 u43 u44 u45 u46 u47 u48 u49 u50 u51 u52 u53 u54 u55 u56 u57 u58 u59 u60 u61 u62 u63 u64 u65 u66 u67 u68 u69 u70 u71 u72 u73 u74 u75 u76 u77 u78 u79 u80 u81 u82 u83 u84 u85 u86 u87 u88 u89 u90 u91 u92 u93 u94 u95 u96 u97 u98 u99 u100 u101 u102 u103 u104 u105 u106 u107 u108 u109 u110 u111 u112 u113 u114 u115 u116 u117 u118 u119 u120 u121 u122 u123 u124 u125 u126 u127 u128 u129 u130 u131 u132 u133 u134 u135 u136 u137 u138 u139 u140 u141 u142 u143 u144 u145 u146 u147 u148 u149 u150 u151 : Value} {J : Nat → Act → World → Prop} {K K1 : Act → World → Prop}
    (hJ : ∀ k' a' w', ScJ s fv v11 v12 wd T w k' a' w' → J k' a' w') (hK : ∀ a' w', Handed J gk a' w' → K a' w') (X : ScCtx s wd T w wr gk k b o cap 34 c rest) (ce : c = 96) :
    Code.wp Tryd.prog (cLp (cB (cL (cR (cR (Tryd.f35.body.getD .skip)))))) (Exit.then K (Exit.inBlock 0 (Exit.then K1 (scanPost s T w)))) { tmps := #[.string s, .int .i64 (k : Int), fv, undef, undef, undef, u6, .slice (some ⟨b, o, none⟩) (rest.length + 1) cap, u8, u9, u10, v11, v12, u13, u14, u15, u16, u17, u18, u19, u20, u21, u22, u23, u24, u25, u26, u27, u28, u29, u30, u31, u32, u33, u34, u35, u36, u37, u38, u39, u40, u41, u42, u43, u44, u45, u46, u47, u48, u49, u50, u51, u52, u53, u54, u55, u56, u57, u58, u59, u60, u61, u62, u63, u64, u65, u66, u67, u68, u69, u70, u71, u72, u73, u74, u75, u76, u77, u78, u79, u80, u81, u82, u83, u84, u85, u86, u87, u88, u89, u90, u91, u92, u93, u94, u95, u96, u97, u98, u99, u100, u101, u102, u103, u104, u105, u106, u107, u108, u109, u110, u111, u112, u113, u114, u115, u116, u117, u118, u119, u120, u121, u122, u123, u124, u125, u126, u127, u128, u129, u130, u131, u132, u133, u134, u135, u136, u137, u138, u139, u140, u141, u142, u143, u144, u145, u146, u147, u148, u149, u150, u151, undef, undef, undef, undef, undef, undef, undef, undef, undef, undef], defers := [] } wr := by
  obtain ⟨hs, hlt, hd, hc0, hlen, hcap, hS, hR, hDS, hg⟩ := X
  have hc := hc0 hlt
  have Hs := Lib.hid hs
  have hsz : (s.size : Int) ≤ 1000000 := hs
  have hk : k ≤ s.size := by omega
  have hk0 : (0 : Int) ≤ k := by omega
  have hkI : (k : Int) ≤ s.size := by omega
  have hltI : (k : Int) < s.size := by omega
  have ct0 := stk_top hS
  have hrl0 : (0 : Int) ≤ (rest.length : Nat) := by omega
  have hcapI : ((rest.length : Nat) : Int) + 1 ≤ cap := by omega
  have hrl1 : ((rest.length : Nat) : Int) ≤ 1000001 := by omega
  have HO := Lib.hid (fun w => Operator_calls s Hs.out k w hk)
  clear hc0 hs
  dsimp only [cLp, cB, cL, cR, Tryd.f35, Option.getD]
  have b34 : (((s[k].toNat : Nat) : Int) == 34) = false := by rw [q34, ← hc, ce]; rfl
  have b39 : (((s[k].toNat : Nat) : Int) == 39) = false := by rw [q39, ← hc, ce]; rfl
  have b40 : (((s[k].toNat : Nat) : Int) == 40) = false := by rw [q40, ← hc, ce]; rfl
  have b41 : (((s[k].toNat : Nat) : Int) == 41) = false := by rw [q41, ← hc, ce]; rfl
  have b92 : (((s[k].toNat : Nat) : Int) == 92) = false := by rw [q92, ← hc, ce]; rfl
  have b96 : (((s[k].toNat : Nat) : Int) == 96) = true := by rw [q96, ← hc, ce]; rfl
  have b125 : (((s[k].toNat : Nat) : Int) == 125) = false := by rw [q125, ← hc, ce]; rfl
  have HI40 := fun w => is_calls s Hs.out k ⟨#[36, 40]⟩ w hk (by decide)
  rw [show (bs ⟨#[36, 40]⟩).isPrefixOf ((bs s).drop k) = false by rw [hd]; exact (pre2' 40 c _).trans (by rw [ce]; rfl)] at HI40
  have HI123 := fun w => is_calls s Hs.out k ⟨#[36, 123]⟩ w hk (by decide)
  rw [show (bs ⟨#[36, 123]⟩).isPrefixOf ((bs s).drop k) = false by rw [hd]; exact (pre2' 123 c _).trans (by rw [ce]; rfl)] at HI123
  have HI123 := Lib.hid HI123
  have HI40 := Lib.hid HI40
  have hstp : stp 34 (c :: (bs s).drop (k + 1)) = some ([96, 34], ((bs s).drop (k + 1))) := by simp [stp_cons, ce]
  have hDS2 := dst_step hDS (by decide) hstp (by decide)
  have HD2 := Lib.hid hDS2
  have hcv : ((s[k].toNat : Nat) : Int) = 96 := by rw [← hc, ce]; rfl
  have HS0 := Lib.hid hS
  have HG := Lib.hid hg
  have HL := Lib.hid (And.intro hlen hk)
  clear hDS hS hg hlen hd hc
  go_wp2_with fail
  refine (HI40.out _).mono ?_
  rintro e w1 ⟨rfl, hB1⟩
  have HS1 := Lib.hid (HS0.out.below hB1)
  have hR1 := Ran.below hR hB1
  have ct1 := stk_top HS1.out
  clear hB1 ct0
  go_wp2_with fail
  refine (HI123.out _).mono ?_
  rintro e w2 ⟨rfl, hB2⟩
  have HS2 := Lib.hid (HS1.out.below hB2)
  have hR2 := Ran.below hR1 hB2
  have ct2 := stk_top HS2.out
  clear hB2 ct1
  have HSB := HS2.out.old (.cells #[.int .u8 96] 5 (0, 0))
  go_wp2_with (at_builtin; go_loud (refine appU8 rfl _ _ rfl (some ⟨b, o, none⟩) (rest.length + 1) cap _ rfl _ rfl HSB _ (block_new rfl) rfl (by omega) ?_; intro p' cap' w6 HS7 HR7; clear HSB))
  have HS8 : Sat w6 (stk p' cap' (96 :: 34 :: rest) * keep w) := stk_push (by exact HS7)
  go_roundg (gk - 1)
  case measure => have := HG.out; omega
  case rel => exact ⟨k + 1, 96 :: 34 :: rest, p', cap', by go_num, by simp, by omega, by simp, by have := HL.out.1; show rest.length + 1 + 1 ≤ _; omega, HS8, Below.trans (Ran.new hR2 _) HR7, HD2.out, by have := HG.out; omega⟩
set_option maxRecDepth 100000 in
set_option maxHeartbeats 8000000 in
theorem scan_34_4 {s : ByteArray} {wd : Bool} {T : Option Bytes} {w wr : World} {gk k b o cap : Nat} {c : UInt8} {rest : List UInt8} {fv u6 u8 u9 u10 v11 v12 u13 u14 u15 u16 u17 u18 u19 u20 u21 u22 u23 u24 u25 u26 u27 u28 u29 u30 u31 u32 u33 u34 u35 u36 u37 u38 u39 u40 u41 u42 u43 u44 u45 u46 u47 u48 u49 u50 u51 u52 u53 u54 u55 u56 u57 u58 u59 u60 u61 u62 u63 u64 u65 u66 u67 u68 u69 u70 u71 u72 u73 u74 u75 u76 u77 u78 u79 u80 u81 u82 u83 u84 u85 u86 u87 u88 u89 u90 u91 u92 u93 u94 u95 u96 u97 u98 u99 u100 u101 u102 u103 u104 u105 u106 u107 u108 u109 u110 u111 u112 u113 u114 u115 u116 u117 u118 u119 u120 u121 u122 u123 u124 u125 u126 u127 u128 u129 u130 u131 u132 u133 u134 u135 u136 u137 u138 u139 u140 u141 u142 u143 u144 u145 u146 u147 u148 u149 u150 u151 : Value} {J : Nat → Act → World → Prop} {K K1 : Act → World → Prop}
    (hJ : ∀ k' a' w', ScJ s fv v11 v12 wd T w k' a' w' → J k' a' w') (hK : ∀ a' w', Handed J gk a' w' → K a' w') (X : ScCtx s wd T w wr gk k b o cap 34 c rest) (c92 : c ≠ 92) (c34 : c ≠ 34) (c96 : c ≠ 96) (hD : ¬ (c = 36 ∧ (((bs s).drop (k + 1)).head? = some 40 ∨ ((bs s).drop (k + 1)).head? = some 123))) :
    Code.wp Tryd.prog (cLp (cB (cL (cR (cR (Tryd.f35.body.getD .skip)))))) (Exit.then K (Exit.inBlock 0 (Exit.then K1 (scanPost s T w)))) { tmps := #[.string s, .int .i64 (k : Int), fv, undef, undef, undef, u6, .slice (some ⟨b, o, none⟩) (rest.length + 1) cap, u8, u9, u10, v11, v12, u13, u14, u15, u16, u17, u18, u19, u20, u21, u22, u23, u24, u25, u26, u27, u28, u29, u30, u31, u32, u33, u34, u35, u36, u37, u38, u39, u40, u41, u42, u43, u44, u45, u46, u47, u48, u49, u50, u51, u52, u53, u54, u55, u56, u57, u58, u59, u60, u61, u62, u63, u64, u65, u66, u67, u68, u69, u70, u71, u72, u73, u74, u75, u76, u77, u78, u79, u80, u81, u82, u83, u84, u85, u86, u87, u88, u89, u90, u91, u92, u93, u94, u95, u96, u97, u98, u99, u100, u101, u102, u103, u104, u105, u106, u107, u108, u109, u110, u111, u112, u113, u114, u115, u116, u117, u118, u119, u120, u121, u122, u123, u124, u125, u126, u127, u128, u129, u130, u131, u132, u133, u134, u135, u136, u137, u138, u139, u140, u141, u142, u143, u144, u145, u146, u147, u148, u149, u150, u151, undef, undef, undef, undef, undef, undef, undef, undef, undef, undef], defers := [] } wr := by
  obtain ⟨hs, hlt, hd, hc0, hlen, hcap, hS, hR, hDS, hg⟩ := X
  have hc := hc0 hlt
  have Hs := Lib.hid hs
  have hsz : (s.size : Int) ≤ 1000000 := hs
  have hk : k ≤ s.size := by omega
  have hk0 : (0 : Int) ≤ k := by omega
  have hkI : (k : Int) ≤ s.size := by omega
  have hltI : (k : Int) < s.size := by omega
  have ct0 := stk_top hS
  have hrl0 : (0 : Int) ≤ (rest.length : Nat) := by omega
  have hcapI : ((rest.length : Nat) : Int) + 1 ≤ cap := by omega
  have hrl1 : ((rest.length : Nat) : Int) ≤ 1000001 := by omega
  have HO := Lib.hid (fun w => Operator_calls s Hs.out k w hk)
  clear hc0 hs
  dsimp only [cLp, cB, cL, cR, Tryd.f35, Option.getD]
  have b92 : (((s[k].toNat : Nat) : Int) == 92) = false := by rw [q92, ← hc]; exact beq_eq_false_iff_ne.2 c92
  have b34 : (((s[k].toNat : Nat) : Int) == 34) = false := by rw [q34, ← hc]; exact beq_eq_false_iff_ne.2 c34
  have b96 : (((s[k].toNat : Nat) : Int) == 96) = false := by rw [q96, ← hc]; exact beq_eq_false_iff_ne.2 c96
  have HI40 := fun w => is_calls s Hs.out k ⟨#[36, 40]⟩ w hk (by decide)
  rw [show (bs ⟨#[36, 40]⟩).isPrefixOf ((bs s).drop k) = false by rw [hd]; refine (pre2' 40 c _).trans (Bool.eq_false_iff.2 fun h => ?_); rw [Bool.and_eq_true] at h; exact hD ⟨eq_of_beq h.1, .inl (eq_of_beq h.2)⟩] at HI40
  have HI123 := fun w => is_calls s Hs.out k ⟨#[36, 123]⟩ w hk (by decide)
  rw [show (bs ⟨#[36, 123]⟩).isPrefixOf ((bs s).drop k) = false by rw [hd]; refine (pre2' 123 c _).trans (Bool.eq_false_iff.2 fun h => ?_); rw [Bool.and_eq_true] at h; exact hD ⟨eq_of_beq h.1, .inr (eq_of_beq h.2)⟩] at HI123
  have HI123 := Lib.hid HI123
  have HI40 := Lib.hid HI40
  have hstp : stp 34 (c :: (bs s).drop (k + 1)) = some ([34], ((bs s).drop (k + 1))) := by generalize (bs s).drop (k + 1) = l at hD ⊢; simp [stp_cons, c92, c34, c96, hD]
  have hDS2 := dst_step hDS (by decide) hstp (by decide)
  have HD2 := Lib.hid hDS2
  have HS0 := Lib.hid hS
  have HG := Lib.hid hg
  have HL := Lib.hid (And.intro hlen hk)
  clear hDS hS hg hlen hd hc
  go_wp2_with fail
  refine (HI40.out _).mono ?_
  rintro e w1 ⟨rfl, hB1⟩
  have HS1 := Lib.hid (HS0.out.below hB1)
  have hR1 := Ran.below hR hB1
  have ct1 := stk_top HS1.out
  clear hB1 ct0
  go_wp2_with fail
  refine (HI123.out _).mono ?_
  rintro e w2 ⟨rfl, hB2⟩
  have HS2 := Lib.hid (HS1.out.below hB2)
  have hR2 := Ran.below hR1 hB2
  have ct2 := stk_top HS2.out
  clear hB2 ct1
  go_wp2_with fail
  go_roundg (gk - 1)
  case measure => have := HG.out; omega
  case rel => exact ⟨k + 1, 34 :: rest, some ⟨b, o, none⟩, cap, by go_num, rfl, by omega, by simp, by have := HL.out.1; show rest.length + 1 ≤ _; omega, HS2.out, hR2, HD2.out, by have := HG.out; omega⟩
set_option maxRecDepth 100000 in
set_option maxHeartbeats 8000000 in
theorem scan_34_5 {s : ByteArray} {wd : Bool} {T : Option Bytes} {w wr : World} {gk k b o cap : Nat} {c : UInt8} {rest : List UInt8} {fv u6 u8 u9 u10 v11 v12 u13 u14 u15 u16 u17 u18 u19 u20 u21 u22 u23 u24 u25 u26 u27 u28 u29 u30 u31 u32 u33 u34 u35 u36 u37 u38 u39 u40 u41 u42 u43 u44 u45 u46 u47 u48 u49 u50 u51 u52 u53 u54 u55 u56 u57 u58 u59 u60 u61 u62 u63 u64 u65 u66 u67 u68 u69 u70 u71 u72 u73 u74 u75 u76 u77 u78 u79 u80 u81 u82 u83 u84 u85 u86 u87 u88 u89 u90 u91 u92 u93 u94 u95 u96 u97 u98 u99 u100 u101 u102 u103 u104 u105 u106 u107 u108 u109 u110 u111 u112 u113 u114 u115 u116 u117 u118 u119 u120 u121 u122 u123 u124 u125 u126 u127 u128 u129 u130 u131 u132 u133 u134 u135 u136 u137 u138 u139 u140 u141 u142 u143 u144 u145 u146 u147 u148 u149 u150 u151 : Value} {J : Nat → Act → World → Prop} {K K1 : Act → World → Prop}
    (hJ : ∀ k' a' w', ScJ s fv v11 v12 wd T w k' a' w' → J k' a' w') (hK : ∀ a' w', Handed J gk a' w' → K a' w') (X : ScCtx s wd T w wr gk k b o cap 34 c rest) (ce : c = 36) (hD : c = 36 ∧ ((bs s).drop (k + 1)).head? = some 40) :
    Code.wp Tryd.prog (cLp (cB (cL (cR (cR (Tryd.f35.body.getD .skip)))))) (Exit.then K (Exit.inBlock 0 (Exit.then K1 (scanPost s T w)))) { tmps := #[.string s, .int .i64 (k : Int), fv, undef, undef, undef, u6, .slice (some ⟨b, o, none⟩) (rest.length + 1) cap, u8, u9, u10, v11, v12, u13, u14, u15, u16, u17, u18, u19, u20, u21, u22, u23, u24, u25, u26, u27, u28, u29, u30, u31, u32, u33, u34, u35, u36, u37, u38, u39, u40, u41, u42, u43, u44, u45, u46, u47, u48, u49, u50, u51, u52, u53, u54, u55, u56, u57, u58, u59, u60, u61, u62, u63, u64, u65, u66, u67, u68, u69, u70, u71, u72, u73, u74, u75, u76, u77, u78, u79, u80, u81, u82, u83, u84, u85, u86, u87, u88, u89, u90, u91, u92, u93, u94, u95, u96, u97, u98, u99, u100, u101, u102, u103, u104, u105, u106, u107, u108, u109, u110, u111, u112, u113, u114, u115, u116, u117, u118, u119, u120, u121, u122, u123, u124, u125, u126, u127, u128, u129, u130, u131, u132, u133, u134, u135, u136, u137, u138, u139, u140, u141, u142, u143, u144, u145, u146, u147, u148, u149, u150, u151, undef, undef, undef, undef, undef, undef, undef, undef, undef, undef], defers := [] } wr := by
  obtain ⟨hs, hlt, hd, hc0, hlen, hcap, hS, hR, hDS, hg⟩ := X
  have hc := hc0 hlt
  have Hs := Lib.hid hs
  have hsz : (s.size : Int) ≤ 1000000 := hs
  have hk : k ≤ s.size := by omega
  have hk0 : (0 : Int) ≤ k := by omega
  have hkI : (k : Int) ≤ s.size := by omega
  have hltI : (k : Int) < s.size := by omega
  have ct0 := stk_top hS
  have hrl0 : (0 : Int) ≤ (rest.length : Nat) := by omega
  have hcapI : ((rest.length : Nat) : Int) + 1 ≤ cap := by omega
  have hrl1 : ((rest.length : Nat) : Int) ≤ 1000001 := by omega
  have HO := Lib.hid (fun w => Operator_calls s Hs.out k w hk)
  clear hc0 hs
  dsimp only [cLp, cB, cL, cR, Tryd.f35, Option.getD]
  have hk2 : k + 1 < s.size := by
    rcases Nat.lt_or_ge (k + 1) s.size with h | h
    · exact h
    · rw [drop_end s (k + 1) h] at hD; cases hD.2
  have hl1 := bs_drop s (k + 1) hk2
  have b34 : (((s[k].toNat : Nat) : Int) == 34) = false := by rw [q34, ← hc, ce]; rfl
  have b39 : (((s[k].toNat : Nat) : Int) == 39) = false := by rw [q39, ← hc, ce]; rfl
  have b40 : (((s[k].toNat : Nat) : Int) == 40) = false := by rw [q40, ← hc, ce]; rfl
  have b41 : (((s[k].toNat : Nat) : Int) == 41) = false := by rw [q41, ← hc, ce]; rfl
  have b92 : (((s[k].toNat : Nat) : Int) == 92) = false := by rw [q92, ← hc, ce]; rfl
  have b96 : (((s[k].toNat : Nat) : Int) == 96) = false := by rw [q96, ← hc, ce]; rfl
  have b125 : (((s[k].toNat : Nat) : Int) == 125) = false := by rw [q125, ← hc, ce]; rfl
  have HI40 := fun w => is_calls s Hs.out k ⟨#[36, 40]⟩ w hk (by decide)
  rw [show (bs ⟨#[36, 40]⟩).isPrefixOf ((bs s).drop k) = true by rw [hd]; exact (pre2' 40 c _).trans (by rw [hD.1, hD.2]; rfl)] at HI40
  have HI40 := Lib.hid HI40
  have hstp : stp 34 (c :: (bs s).drop (k + 1)) = some ([40, 34], ((bs s).drop (k + 2))) := by rw [hl1] at hD ⊢; have hd2 := Option.some.inj hD.2; rw [stp_cons]; simp [hD.1, hd2]
  have hDS2 := dst_step hDS (by decide) hstp (by decide)
  have HD2 := Lib.hid hDS2
  have hd2 : ((s[k + 1].toNat : Nat) : Int) = 40 := by rw [hl1] at hD; rw [Option.some.inj hD.2]; rfl
  have hk2I : (k : Int) + 1 < s.size := by omega
  have HS0 := Lib.hid hS
  have HG := Lib.hid hg
  have HL := Lib.hid (And.intro hlen hk)
  clear hDS hS hg hlen hd hc
  go_wp2_with fail
  refine (HI40.out _).mono ?_
  rintro e w1 ⟨rfl, hB1⟩
  have HS1 := Lib.hid (HS0.out.below hB1)
  have hR1 := Ran.below hR hB1
  have ct1 := stk_top HS1.out
  clear hB1 ct0
  have HSB := HS1.out.old (.cells #[.int .u8 40] 5 (0, 0))
  go_wp2_with (at_builtin; go_loud (refine appU8 rfl _ _ rfl (some ⟨b, o, none⟩) (rest.length + 1) cap _ rfl _ rfl HSB _ (block_new rfl) rfl (by omega) ?_; intro p' cap' w6 HS7 HR7; clear HSB))
  have HS8 : Sat w6 (stk p' cap' (40 :: 34 :: rest) * keep w) := stk_push (by exact HS7)
  go_roundg (gk - 1)
  case measure => have := HG.out; omega
  case rel => exact ⟨k + 2, 40 :: 34 :: rest, p', cap', by go_num, by simp, by omega, by simp, by have := HL.out.1; show rest.length + 1 + 1 ≤ _; omega, HS8, Below.trans (Ran.new hR1 _) HR7, HD2.out, by have := HG.out; omega⟩
set_option maxRecDepth 100000 in
set_option maxHeartbeats 8000000 in
theorem scan_34_6 {s : ByteArray} {wd : Bool} {T : Option Bytes} {w wr : World} {gk k b o cap : Nat} {c : UInt8} {rest : List UInt8} {fv u6 u8 u9 u10 v11 v12 u13 u14 u15 u16 u17 u18 u19 u20 u21 u22 u23 u24 u25 u26 u27 u28 u29 u30 u31 u32 u33 u34 u35 u36 u37 u38 u39 u40 u41 u42 u43 u44 u45 u46 u47 u48 u49 u50 u51 u52 u53 u54 u55 u56 u57 u58 u59 u60 u61 u62 u63 u64 u65 u66 u67 u68 u69 u70 u71 u72 u73 u74 u75 u76 u77 u78 u79 u80 u81 u82 u83 u84 u85 u86 u87 u88 u89 u90 u91 u92 u93 u94 u95 u96 u97 u98 u99 u100 u101 u102 u103 u104 u105 u106 u107 u108 u109 u110 u111 u112 u113 u114 u115 u116 u117 u118 u119 u120 u121 u122 u123 u124 u125 u126 u127 u128 u129 u130 u131 u132 u133 u134 u135 u136 u137 u138 u139 u140 u141 u142 u143 u144 u145 u146 u147 u148 u149 u150 u151 : Value} {J : Nat → Act → World → Prop} {K K1 : Act → World → Prop}
    (hJ : ∀ k' a' w', ScJ s fv v11 v12 wd T w k' a' w' → J k' a' w') (hK : ∀ a' w', Handed J gk a' w' → K a' w') (X : ScCtx s wd T w wr gk k b o cap 34 c rest) (ce : c = 36) (hD : c = 36 ∧ ((bs s).drop (k + 1)).head? = some 123) :
    Code.wp Tryd.prog (cLp (cB (cL (cR (cR (Tryd.f35.body.getD .skip)))))) (Exit.then K (Exit.inBlock 0 (Exit.then K1 (scanPost s T w)))) { tmps := #[.string s, .int .i64 (k : Int), fv, undef, undef, undef, u6, .slice (some ⟨b, o, none⟩) (rest.length + 1) cap, u8, u9, u10, v11, v12, u13, u14, u15, u16, u17, u18, u19, u20, u21, u22, u23, u24, u25, u26, u27, u28, u29, u30, u31, u32, u33, u34, u35, u36, u37, u38, u39, u40, u41, u42, u43, u44, u45, u46, u47, u48, u49, u50, u51, u52, u53, u54, u55, u56, u57, u58, u59, u60, u61, u62, u63, u64, u65, u66, u67, u68, u69, u70, u71, u72, u73, u74, u75, u76, u77, u78, u79, u80, u81, u82, u83, u84, u85, u86, u87, u88, u89, u90, u91, u92, u93, u94, u95, u96, u97, u98, u99, u100, u101, u102, u103, u104, u105, u106, u107, u108, u109, u110, u111, u112, u113, u114, u115, u116, u117, u118, u119, u120, u121, u122, u123, u124, u125, u126, u127, u128, u129, u130, u131, u132, u133, u134, u135, u136, u137, u138, u139, u140, u141, u142, u143, u144, u145, u146, u147, u148, u149, u150, u151, undef, undef, undef, undef, undef, undef, undef, undef, undef, undef], defers := [] } wr := by
  obtain ⟨hs, hlt, hd, hc0, hlen, hcap, hS, hR, hDS, hg⟩ := X
  have hc := hc0 hlt
  have Hs := Lib.hid hs
  have hsz : (s.size : Int) ≤ 1000000 := hs
  have hk : k ≤ s.size := by omega
  have hk0 : (0 : Int) ≤ k := by omega
  have hkI : (k : Int) ≤ s.size := by omega
  have hltI : (k : Int) < s.size := by omega
  have ct0 := stk_top hS
  have hrl0 : (0 : Int) ≤ (rest.length : Nat) := by omega
  have hcapI : ((rest.length : Nat) : Int) + 1 ≤ cap := by omega
  have hrl1 : ((rest.length : Nat) : Int) ≤ 1000001 := by omega
  have HO := Lib.hid (fun w => Operator_calls s Hs.out k w hk)
  clear hc0 hs
  dsimp only [cLp, cB, cL, cR, Tryd.f35, Option.getD]
  have hk2 : k + 1 < s.size := by
    rcases Nat.lt_or_ge (k + 1) s.size with h | h
    · exact h
    · rw [drop_end s (k + 1) h] at hD; cases hD.2
  have hl1 := bs_drop s (k + 1) hk2
  have b34 : (((s[k].toNat : Nat) : Int) == 34) = false := by rw [q34, ← hc, ce]; rfl
  have b39 : (((s[k].toNat : Nat) : Int) == 39) = false := by rw [q39, ← hc, ce]; rfl
  have b40 : (((s[k].toNat : Nat) : Int) == 40) = false := by rw [q40, ← hc, ce]; rfl
  have b41 : (((s[k].toNat : Nat) : Int) == 41) = false := by rw [q41, ← hc, ce]; rfl
  have b92 : (((s[k].toNat : Nat) : Int) == 92) = false := by rw [q92, ← hc, ce]; rfl
  have b96 : (((s[k].toNat : Nat) : Int) == 96) = false := by rw [q96, ← hc, ce]; rfl
  have b125 : (((s[k].toNat : Nat) : Int) == 125) = false := by rw [q125, ← hc, ce]; rfl
  have HI40 := fun w => is_calls s Hs.out k ⟨#[36, 40]⟩ w hk (by decide)
  rw [show (bs ⟨#[36, 40]⟩).isPrefixOf ((bs s).drop k) = false by rw [hd]; exact (pre2' 40 c _).trans (by rw [hD.2]; simp)] at HI40
  have HI123 := fun w => is_calls s Hs.out k ⟨#[36, 123]⟩ w hk (by decide)
  rw [show (bs ⟨#[36, 123]⟩).isPrefixOf ((bs s).drop k) = true by rw [hd]; exact (pre2' 123 c _).trans (by rw [hD.1, hD.2]; rfl)] at HI123
  have HI123 := Lib.hid HI123
  have HI40 := Lib.hid HI40
  have hstp : stp 34 (c :: (bs s).drop (k + 1)) = some ([123, 34], ((bs s).drop (k + 2))) := by rw [hl1] at hD ⊢; have hd2 := Option.some.inj hD.2; rw [stp_cons]; simp [hD.1, hd2]
  have hDS2 := dst_step hDS (by decide) hstp (by decide)
  have HD2 := Lib.hid hDS2
  have hd2 : ((s[k + 1].toNat : Nat) : Int) = 123 := by rw [hl1] at hD; rw [Option.some.inj hD.2]; rfl
  have hk2I : (k : Int) + 1 < s.size := by omega
  have HS0 := Lib.hid hS
  have HG := Lib.hid hg
  have HL := Lib.hid (And.intro hlen hk)
  clear hDS hS hg hlen hd hc
  go_wp2_with fail
  refine (HI40.out _).mono ?_
  rintro e w1 ⟨rfl, hB1⟩
  have HS1 := Lib.hid (HS0.out.below hB1)
  have hR1 := Ran.below hR hB1
  have ct1 := stk_top HS1.out
  clear hB1 ct0
  go_wp2_with fail
  refine (HI123.out _).mono ?_
  rintro e w2 ⟨rfl, hB2⟩
  have HS2 := Lib.hid (HS1.out.below hB2)
  have hR2 := Ran.below hR1 hB2
  have ct2 := stk_top HS2.out
  clear hB2 ct1
  have HSB := HS2.out.old (.cells #[.int .u8 123] 5 (0, 0))
  go_wp2_with (at_builtin; go_loud (refine appU8 rfl _ _ rfl (some ⟨b, o, none⟩) (rest.length + 1) cap _ rfl _ rfl HSB _ (block_new rfl) rfl (by omega) ?_; intro p' cap' w6 HS7 HR7; clear HSB))
  have HS8 : Sat w6 (stk p' cap' (123 :: 34 :: rest) * keep w) := stk_push (by exact HS7)
  go_roundg (gk - 1)
  case measure => have := HG.out; omega
  case rel => exact ⟨k + 2, 123 :: 34 :: rest, p', cap', by go_num, by simp, by omega, by simp, by have := HL.out.1; show rest.length + 1 + 1 ≤ _; omega, HS8, Below.trans (Ran.new hR2 _) HR7, HD2.out, by have := HG.out; omega⟩
end Go.Proofs.YtlhkochpokhncaaDoor.Lexer
