/- The document's scan: the loop's body, cut out; what a round hands on. -/
import Derived.Test.YtlhkochpokhncaaDoorLxN
namespace Go.Proofs.YtlhkochpokhncaaDoor.Lexer
open Go.RowKit Go.Proofs.YtlhkochpokhncaaDoor Go.Proofs.YtlhkochpokhncaaDoor.Hp
set_option linter.unusedVariables false
attribute [local go_sem] Oper.semAt_some

theorem q119 (c : UInt8) : (((c.toNat : Nat) : Int) == 119) = (c == 119) := u8_lit c 119 (by decide)
theorem pl_some (s : ByteArray) (k : Nat) (hk : k ≤ s.size) : pl s.size (some ((bs s).drop k)) = (k : Int) := by
  show (s.size : Int) - ((((bs s).drop k).length : Nat) : Int) = _
  rw [List.length_drop, bs_length]; omega
def cR : Code → Code | .seq _ b => b | c => c
def cL : Code → Code | .seq a _ => a | c => c
def cB : Code → Code | .block _ c => c | c => c
def cLp : Code → Code | .loop c => c | c => c
abbrev scanPost (s : ByteArray) (T : Option Bytes) (w : World) : Exit → Act → World → Prop := bodyPost Tryd.prog Tryd.f35 (NPost (pl s.size T) w)
/-- What a round hands on. -/
abbrev ScJ (s : ByteArray) (fv v11 v12 : Value) (wd : Bool) (T : Option Bytes) (w : World) (g : Nat) (a' : Act) (w' : World) : Prop :=
  ∃ (u1 u6 u7 u8 u9 u10 u13 u14 u15 u16 u17 u18 u19 u20 u21 u22 u23 u24 u25 u26 u27 u28 u29 u30 u31 u32 u33 u34 u35 u36 u37 u38 u39 u40 u41 u42 u43 u44 u45 u46 u47 u48 u49 u50 u51 u52 u53 u54 u55 u56 u57 u58 u59 u60 u61 u62 u63 u64 u65 u66 u67 u68 u69 u70 u71 u72 u73 u74 u75 u76 u77 u78 u79 u80 u81 u82 u83 u84 u85 u86 u87 u88 u89 u90 u91 u92 u93 u94 u95 u96 u97 u98 u99 u100 u101 u102 u103 u104 u105 u106 u107 u108 u109 u110 u111 u112 u113 u114 u115 u116 u117 u118 u119 u120 u121 u122 u123 u124 u125 u126 u127 u128 u129 u130 u131 u132 u133 u134 u135 u136 u137 u138 u139 u140 u141 u142 u143 u144 u145 u146 u147 u148 u149 u150 u151 : Value), ScRel s wd T w g u1 u7 w' ∧ a' = { tmps := #[.string s, u1, fv, undef, undef, undef, u6, u7, u8, u9, u10, v11, v12, u13, u14, u15, u16, u17, u18, u19, u20, u21, u22, u23, u24, u25, u26, u27, u28, u29, u30, u31, u32, u33, u34, u35, u36, u37, u38, u39, u40, u41, u42, u43, u44, u45, u46, u47, u48, u49, u50, u51, u52, u53, u54, u55, u56, u57, u58, u59, u60, u61, u62, u63, u64, u65, u66, u67, u68, u69, u70, u71, u72, u73, u74, u75, u76, u77, u78, u79, u80, u81, u82, u83, u84, u85, u86, u87, u88, u89, u90, u91, u92, u93, u94, u95, u96, u97, u98, u99, u100, u101, u102, u103, u104, u105, u106, u107, u108, u109, u110, u111, u112, u113, u114, u115, u116, u117, u118, u119, u120, u121, u122, u123, u124, u125, u126, u127, u128, u129, u130, u131, u132, u133, u134, u135, u136, u137, u138, u139, u140, u141, u142, u143, u144, u145, u146, u147, u148, u149, u150, u151, undef, undef, undef, undef, undef, undef, undef, undef, undef, undef], defers := [] }
/-- What a round begins with. -/
structure ScCtx (s : ByteArray) (wd : Bool) (T : Option Bytes) (w wr : World) (gk k b o cap : Nat) (a c : UInt8) (rest : List UInt8) : Prop where
  hs : Small s
  hlt : k < s.size
  hd : (bs s).drop k = c :: (bs s).drop (k + 1)
  hc : ∀ h : k < s.size, c = s[k]
  hlen : rest.length + 1 ≤ k + 1
  hcap : rest.length + 1 ≤ cap
  hS : Sat wr (stk (some ⟨b, o, none⟩) cap (a :: rest) * keep w)
  hR : Ran w wr
  hDS : DSt wd (a :: rest) T (c :: (bs s).drop (k + 1))
  hg : s.size - k + 1 ≤ gk
set_option maxRecDepth 100000 in
set_option maxHeartbeats 8000000 in
theorem scan_39_0 {s : ByteArray} {wd : Bool} {T : Option Bytes} {w wr : World} {gk k b o cap : Nat} {c : UInt8} {rest : List UInt8} {fv u6 u8 u9 u10 v11 v12 u13 u14 u15 u16 u17 u18 u19 u20 u21 u22 u23 u24 u25 u26 u27 u28 u29 u30 u31 u32 u33 u34 u35 u36 u37 u38 u39 u40 u41 u42 u43 u44 u45 u46 u47 u48 u49 u50 u51 u52 u53 u54 u55 u56 u57 u58 u59 u60 u61 u62 u63 u64 u65 u66 u67 u68 u69 u70 u71 u72 u73 u74 u75 u76 u77 u78 u79 u80 u81 u82 u83 u84 u85 u86 u87 u88 u89 u90 u91 u92 u93 u94 u95 u96 u97 u98 u99 u100 u101 u102 u103 u104 u105 u106 u107 u108 u109 u110 u111 u112 u113 u114 u115 u116 u117 u118 u119 u120 u121 u122 u123 u124 u125 u126 u127 u128 u129 u130 u131 u132 u133 u134 u135 u136 u137 u138 u139 u140 u141 u142 u143 u144 u145 u146 u147 u148 u149 u150 u151 : Value} {J : Nat → Act → World → Prop} {K K1 : Act → World → Prop}
    (hJ : ∀ k' a' w', ScJ s fv v11 v12 wd T w k' a' w' → J k' a' w') (hK : ∀ a' w', Handed J gk a' w' → K a' w') (X : ScCtx s wd T w wr gk k b o cap 39 c rest) (ce : c = 39) :
    Code.wp Tryd.prog (cLp (cB (cL (cR (cR (Tryd.f35.body.getD .skip)))))) (Exit.then K (Exit.inBlock 0 (Exit.then K1 (scanPost s T w)))) { tmps := #[.string s, .int .i64 (k : Int), fv, undef, undef, undef, u6, .slice (some ⟨b, o, none⟩) (rest.length + 1) cap, u8, u9, u10, v11, v12, u13, u14, u15, u16, u17, u18, u19, u20, u21, u22, u23, u24, u25, u26, u27, u28, u29, u30, u31, u32, u33, u34, u35, u36, u37, u38, u39, u40, u41, u42, u43, u44, u45, u46, u47, u48, u49, u50, u51, u52, u53, u54, u55, u56, u57, u58, u59, u60, u61, u62, u63, u64, u65, u66, u67, u68, u69, u70, u71, u72, u73, u74, u75, u76, u77, u78, u79, u80, u81, u82, u83, u84, u85, u86, u87, u88, u89, u90, u91, u92, u93, u94, u95, u96, u97, u98, u99, u100, u101, u102, u103, u104, u105, u106, u107, u108, u109, u110, u111, u112, u113, u114, u115, u116, u117, u118, u119, u120, u121, u122, u123, u124, u125, u126, u127, u128, u129, u130, u131, u132, u133, u134, u135, u136, u137, u138, u139, u140, u141, u142, u143, u144, u145, u146, u147, u148, u149, u150, u151, undef, undef, undef, undef, undef, undef, undef, undef, undef, undef], defers := [] } wr := by
  obtain ⟨hs, hlt, hd, hc0, hlen, hcap, hS, hR, hDS, hg⟩ := X
  have hc := hc0 hlt
  have Hs := Lib.hid hs
  have hsz : (s.size : Int) ≤ 1000000 := hs
  have hk : k ≤ s.size := by omega
  have hk0 : (0 : Int) ≤ k := by omega
  have hkI : (k : Int) ≤ s.size := by omega
  have hltI : (k : Int) < s.size := by omega
  have ct0 := stk_top hS
  have hrl0 : (0 : Int) ≤ (rest.length : Nat) := by omega
  have hcapI : ((rest.length : Nat) : Int) + 1 ≤ cap := by omega
  have hrl1 : ((rest.length : Nat) : Int) ≤ 1000001 := by omega
  have HO := Lib.hid (fun w => Operator_calls s Hs.out k w hk)
  clear hc0 hs
  dsimp only [cLp, cB, cL, cR, Tryd.f35, Option.getD]
  have b34 : (((s[k].toNat : Nat) : Int) == 34) = false := by rw [q34, ← hc, ce]; rfl
  have b39 : (((s[k].toNat : Nat) : Int) == 39) = true := by rw [q39, ← hc, ce]; rfl
  have b40 : (((s[k].toNat : Nat) : Int) == 40) = false := by rw [q40, ← hc, ce]; rfl
  have b41 : (((s[k].toNat : Nat) : Int) == 41) = false := by rw [q41, ← hc, ce]; rfl
  have b92 : (((s[k].toNat : Nat) : Int) == 92) = false := by rw [q92, ← hc, ce]; rfl
  have b96 : (((s[k].toNat : Nat) : Int) == 96) = false := by rw [q96, ← hc, ce]; rfl
  have b125 : (((s[k].toNat : Nat) : Int) == 125) = false := by rw [q125, ← hc, ce]; rfl
  have hstp : stp 39 (c :: (bs s).drop (k + 1)) = some ([], ((bs s).drop (k + 1))) := by simp [stp_cons, ce]
  have hDS2 := dst_step hDS (by decide) hstp (by decide)
  have HD2 := Lib.hid hDS2
  by_cases hrest : rest = []
  · have hrl : (((rest.length : Nat) : Int) == 0) = true := by rw [hrest]; rfl
    have ctz : wr.cell? ⟨b, o, none⟩ = some (u8V 39) := by have := ct0; rw [hrest] at this; exact this
    have hv : pl s.size T = (k : Int) + 1 := by subst hrest; rw [dst_empty hDS2]; exact (pl_some s (k + 1) (by omega)).trans (by omega)
    have HV := Lib.hid hv
    clear hv
    have HS0 := Lib.hid hS
    have HG := Lib.hid hg
    have HL := Lib.hid (And.intro hlen hk)
    clear hDS hS hg hlen hd hc
    go_wp2_with fail
    go_ret
    exact ⟨by rw [HV.out]; rfl, Ran.whole' hR HS0.out.right⟩
  · have hrl : (((rest.length : Nat) : Int) == 0) = false := by rw [beq_eq_false_iff_ne]; intro e; exact hrest (List.length_eq_zero_iff.1 (by omega))
    have HS0 := Lib.hid hS
    have HG := Lib.hid hg
    have HL := Lib.hid (And.intro hlen hk)
    clear hDS hS hg hlen hd hc
    go_wp2_with fail
    go_roundg (gk - 1)
    case measure => have := HG.out; omega
    case rel => exact ⟨k + 1, rest, some ⟨b, o, none⟩, cap, by go_num, rfl, by omega, hrest, by have := HL.out.1; omega, stk_pop HS0.out, hR, HD2.out, by have := HG.out; omega⟩
set_option maxRecDepth 100000 in
set_option maxHeartbeats 8000000 in
theorem scan_39_1 {s : ByteArray} {wd : Bool} {T : Option Bytes} {w wr : World} {gk k b o cap : Nat} {c : UInt8} {rest : List UInt8} {fv u6 u8 u9 u10 v11 v12 u13 u14 u15 u16 u17 u18 u19 u20 u21 u22 u23 u24 u25 u26 u27 u28 u29 u30 u31 u32 u33 u34 u35 u36 u37 u38 u39 u40 u41 u42 u43 u44 u45 u46 u47 u48 u49 u50 u51 u52 u53 u54 u55 u56 u57 u58 u59 u60 u61 u62 u63 u64 u65 u66 u67 u68 u69 u70 u71 u72 u73 u74 u75 u76 u77 u78 u79 u80 u81 u82 u83 u84 u85 u86 u87 u88 u89 u90 u91 u92 u93 u94 u95 u96 u97 u98 u99 u100 u101 u102 u103 u104 u105 u106 u107 u108 u109 u110 u111 u112 u113 u114 u115 u116 u117 u118 u119 u120 u121 u122 u123 u124 u125 u126 u127 u128 u129 u130 u131 u132 u133 u134 u135 u136 u137 u138 u139 u140 u141 u142 u143 u144 u145 u146 u147 u148 u149 u150 u151 : Value} {J : Nat → Act → World → Prop} {K K1 : Act → World → Prop}
    (hJ : ∀ k' a' w', ScJ s fv v11 v12 wd T w k' a' w' → J k' a' w') (hK : ∀ a' w', Handed J gk a' w' → K a' w') (X : ScCtx s wd T w wr gk k b o cap 39 c rest) (c39 : c ≠ 39) :
    Code.wp Tryd.prog (cLp (cB (cL (cR (cR (Tryd.f35.body.getD .skip)))))) (Exit.then K (Exit.inBlock 0 (Exit.then K1 (scanPost s T w)))) { tmps := #[.string s, .int .i64 (k : Int), fv, undef, undef, undef, u6, .slice (some ⟨b, o, none⟩) (rest.length + 1) cap, u8, u9, u10, v11, v12, u13, u14, u15, u16, u17, u18, u19, u20, u21, u22, u23, u24, u25, u26, u27, u28, u29, u30, u31, u32, u33, u34, u35, u36, u37, u38, u39, u40, u41, u42, u43, u44, u45, u46, u47, u48, u49, u50, u51, u52, u53, u54, u55, u56, u57, u58, u59, u60, u61, u62, u63, u64, u65, u66, u67, u68, u69, u70, u71, u72, u73, u74, u75, u76, u77, u78, u79, u80, u81, u82, u83, u84, u85, u86, u87, u88, u89, u90, u91, u92, u93, u94, u95, u96, u97, u98, u99, u100, u101, u102, u103, u104, u105, u106, u107, u108, u109, u110, u111, u112, u113, u114, u115, u116, u117, u118, u119, u120, u121, u122, u123, u124, u125, u126, u127, u128, u129, u130, u131, u132, u133, u134, u135, u136, u137, u138, u139, u140, u141, u142, u143, u144, u145, u146, u147, u148, u149, u150, u151, undef, undef, undef, undef, undef, undef, undef, undef, undef, undef], defers := [] } wr := by
  obtain ⟨hs, hlt, hd, hc0, hlen, hcap, hS, hR, hDS, hg⟩ := X
  have hc := hc0 hlt
  have Hs := Lib.hid hs
  have hsz : (s.size : Int) ≤ 1000000 := hs
  have hk : k ≤ s.size := by omega
  have hk0 : (0 : Int) ≤ k := by omega
  have hkI : (k : Int) ≤ s.size := by omega
  have hltI : (k : Int) < s.size := by omega
  have ct0 := stk_top hS
  have hrl0 : (0 : Int) ≤ (rest.length : Nat) := by omega
  have hcapI : ((rest.length : Nat) : Int) + 1 ≤ cap := by omega
  have hrl1 : ((rest.length : Nat) : Int) ≤ 1000001 := by omega
  have HO := Lib.hid (fun w => Operator_calls s Hs.out k w hk)
  clear hc0 hs
  dsimp only [cLp, cB, cL, cR, Tryd.f35, Option.getD]
  have b39 : (((s[k].toNat : Nat) : Int) == 39) = false := by rw [q39, ← hc]; exact beq_eq_false_iff_ne.2 c39
  have hstp : stp 39 (c :: (bs s).drop (k + 1)) = some ([39], ((bs s).drop (k + 1))) := by simp [stp_cons, c39]
  have hDS2 := dst_step hDS (by decide) hstp (by decide)
  have HD2 := Lib.hid hDS2
  have HS0 := Lib.hid hS
  have HG := Lib.hid hg
  have HL := Lib.hid (And.intro hlen hk)
  clear hDS hS hg hlen hd hc
  go_wp2_with fail
  go_roundg (gk - 1)
  case measure => have := HG.out; omega
  case rel => exact ⟨k + 1, 39 :: rest, some ⟨b, o, none⟩, cap, by go_num, rfl, by omega, by simp, by have := HL.out.1; show rest.length + 1 ≤ _; omega, HS0.out, hR, HD2.out, by have := HG.out; omega⟩
end Go.Proofs.YtlhkochpokhncaaDoor.Lexer
