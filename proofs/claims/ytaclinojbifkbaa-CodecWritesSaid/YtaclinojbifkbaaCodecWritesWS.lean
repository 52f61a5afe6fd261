/- writes_walk: the arm S. -/
import Derived.Test.YtaclinojbifkbaaCodecWritesWK
namespace Go.Proofs.Ytaclinojbifkbaa
open Go.RowKit
set_option maxHeartbeats 40000000 in
set_option maxRecDepth 100000 in
theorem writes_walk_S (w : World) (A : Option Addr) (ca : Nat) (l : List CPart) (hA : PartsIn w A l) (hl : l.length ≤ maxLen) : (writes_walk_pack w A ca l hA hl).S := by
  intro hlm HA HL w1 zz1 zz2 p C1 HP wr u2 u7 zz3 zz4 zz5 zz6 zz7 zz8 zz9 zz10 zz11 zz12 zz13 zz14 zz15 zz16 zz17 zz18 zz19 zz20 zz21 zz22 zz23 zz24 zz25 zz26 zz27 zz28 u38 zz29 zz30 zz31 zz32 zz33 zz34 zz35 zz36 zz37 zz38 zz39 zz40 zz41 zz42 zz43 zz44 u55 zz45 zz46 zz47 zz48 zz49 zz50 zz51 zz52 zz53 zz54 u66 zz55 zz56 zz57 zz58 zz59 zz60 zz61 zz62 zz63 zz64 zz65 zz66 zz67 zz68 u81 zz69 zz70 zz71 zz72 zz73 zz74 zz75 zz76 zz77 zz78 zz79 zz80 zz81 zz82 zz83 zz84 zz85 zz86 zz87 zz88 zz89 u103 zz90 zz91 zz92 zz93 zz94 zz95 zz96 zz97 zz98 zz99 u114 zz100 zz101 zz102 zz103 zz104 zz105 zz106 zz107 zz108 zz109 u125 zz110 zz111 zz112 zz113 zz114 zz115 zz116 zz117 zz118 zz119 zz120 zz121 zz122 zz123 zz124 zz125 zz126 zz127 zz128 zz129 zz130 zz131 zz132 zz133 zz134 zz135 zz136 zz137 zz138 zz139 zz140 zz141 zz142 zz143 zz144 zz145 zz146 zz147 zz148 zz149 zz150 j A3 m3 c3 bs er la bad hj hjl zz151 hbs hm3 HCK HOK zz152 zz153 zz154 zz155 zz156 zz157 zz158 zz159 zz160 zz161 zz162 zz163 zz164 zz165 zz166 zz167 zz168 zz169 zz170 zz171 zz172 zz173 zz174 zz175 zz176 zz177 zz178 zz179 zz180 zz181 zz182 zz183 zz184 zz185 zz186 zz187 zz188 zz189 zz190 zz191 zz192 zz193 zz194 zz195 zz196 zz197 zz198 zz199 zz200 zz201 zz202 zz203 zz204 zz205 zz206 zz207 zz208 zz209 zz210 zz211 zz212 zz213 zz214 zz215 zz216 zz217 zz218 zz219 zz220 zz221 zz222 zz223 zz224 zz225 zz226 zz227 zz228 zz229 zz230 zz231 zz232 zz233 zz234 zz235 zz236 zz237 zz238 zz239 zz240 zz241 zz242 zz243 zz244 zz245 zz246 zz247 zz248 zz249 zz250 zz251 zz252 zz253 zz254 zz255 zz256 zz257 zz258 zz259 zz260 zz261 zz262 zz263 zz264 zz265 zz266 zz267 zz268 zz269 zz270 zz271 zz272 zz273 zz274 zz275 zz276 zz277 zz278 zz279 zz280 zz281 zz282 zz283 zz284 zz285 zz286 zz287 zz288 zz289 zz290 zz291 zz292 zz293 zz294 zz295 HCC hlt hlt3 o b off HAT HDL hcs zz296 zz297 wc u12 u13 u14 u15 u16 u17 u18 u19 u20 u21 u22 u23 u24 u25 u26 u27 u28 u29 u30 u31 u32 u33 u34 u35 u36 u37 u39 u40 u41 u42 u43 u44 u45 u46 u47 u48 u49 u50 u51 u52 u53 u54 u56 u57 u58 u59 u60 u61 u62 u63 u64 u65 u67 u68 u69 u70 u71 u72 u73 u74 u75 u76 u77 u78 u79 u80 u82 u83 u84 u85 u86 u87 u88 u89 u90 u91 u92 u93 u94 u95 u96 u97 u98 u99 u100 u101 u102 u104 u105 u106 u107 u108 u109 u110 u111 u112 u113 u115 u116 u117 u118 u119 u120 u121 u122 u123 u124 u126 u127 u128 u129 u130 u131 u132 u133 u134 u135 u136 u137 u138 u139 u140 u141 u142 u143 u144 u145 u146 u147 u148 u149 u150 u151 u152 u153 u154 u155 u156 u157 u158 u159 u160 u161 u162 u163 q e0 e1 e2 e3 e4 e37 K0 BA SZ HQ hkind hB' hR' zz298 zz299 zz300 zz301 zz302 zz303 zz304
  have e4' := e4
  have h7 : o.kind.toNat % 7 = 0 ∨ o.kind.toNat % 7 = 1 ∨ o.kind.toNat % 7 = 2 ∨ o.kind.toNat % 7 = 3 ∨ o.kind.toNat % 7 = 4 ∨ o.kind.toNat % 7 = 5 ∨ o.kind.toNat % 7 = 6 := by omega
  have hbs2 : bs.length + 4000 ≤ 1000000000 := by omega
  rcases h7 with h7 | h7 | h7 | h7 | h7 | h7 | h7
  · have g0 : ((o.kind.toNat : Int) % 7 == 0) = true := by simp; omega
    clear h7 e4'
    go_wp2_with fail
    refine (K0.out.op (fun ob hi _ _ _ => byte_calls wc p ob bs er hi _ o.x rfl (by omega))).mono ?_
    rintro e w4 ⟨rfl, k4, keep, sz⟩
    have e1' : w4.cell? ⟨q, 1, none⟩ = some (.int .u8 (o.x.toNat : Int)) := by rw [(keep _ _ _ (Nat.le_refl _) BA.out).cell]; rfl
    have K4 := Lib.hid (k4.fr0 ((Fr.refl [] w4).alloc (.cells #[.int .u8 (o.x.toNat : Int)] 5)))
    have R4 := Lib.hid (rd_one w4 o.x)
    clear keep sz k4
    go_wp2_with (at_builtin; go_loud ((refine wpList_appCK rfl (.tmp 61) (.tmp 64) rfl rfl K4.out (some ⟨w4.heap.size, 0, none⟩) 1 1 [o.x] rfl rfl R4.out (by omega) ?_); intro A5 c5 w5 k5; have K5 := Lib.hid k5; clear k5))
    go_meet
    exact ⟨A5, m3 + 1, c5, _, er, _, bad, rfl, rfl, K5.out, by simp; omega, by omega, HOK.out.app _⟩
  · have g0 : ((o.kind.toNat : Int) % 7 == 0) = false := by simp; omega
    have g1 : ((o.kind.toNat : Int) % 7 == 1) = true := by simp; omega
    clear h7 e4'
    obtain ⟨tb, htb⟩ : ∃ tb, ((o.x.toNat : Int) % 2 == 1) = tb := ⟨_, rfl⟩
    go_wp2_with fail
    refine (K0.out.op (fun ob hi _ _ _ => truth_calls wc p ob bs er hi tb (by omega))).mono ?_
    rintro e w4 ⟨rfl, k4, keep, sz⟩
    have e1' : w4.cell? ⟨q, 1, none⟩ = some (.int .u8 (o.x.toNat : Int)) := by rw [(keep _ _ _ (Nat.le_refl _) BA.out).cell]; rfl
    have K4 := Lib.hid k4
    have HT := Lib.hid (rtruth_calls w4 tb)
    clear keep sz k4
    go_wp2_with (first
      | (go_at_call 16; (with_reducible refine HT.out.mono ?_); rintro e w5 ho5; obtain ⟨A6, c6, rfl, _, r6, _, f6⟩ := OwnN.rd ho5; have K6 := Lib.hid (K4.out.fr0 f6); have R6 := Lib.hid r6; clear r6 f6 ho5)
      | (at_builtin; go_loud ((refine wpList_appCK rfl (.tmp 74) (.tmp 79) rfl rfl K6.out _ _ _ _ rfl rfl R6.out (by omega) ?_); intro A5 c5 w5 k5; have K5 := Lib.hid k5; clear k5)))
    go_meet
    exact ⟨A5, m3 + 1, c5, _, er, _, bad, rfl, rfl, K5.out, by simp; omega, by omega, HOK.out.app _⟩
  · have g0 : ((o.kind.toNat : Int) % 7 == 0) = false := by simp; omega
    have g1 : ((o.kind.toNat : Int) % 7 == 1) = false := by simp; omega
    have g2 : ((o.kind.toNat : Int) % 7 == 2) = true := by simp; omega
    clear h7 e4'
    go_wp2_with fail
    refine (cnt_any K0.out o.n HAT.out.hn (by omega)).mono ?_
    rintro e w4 ⟨rfl, k4, keep, sz⟩
    have e2' : w4.cell? ⟨q, 2, none⟩ = some (.int .i64 o.n) := by rw [(keep _ _ _ (Nat.le_refl _) BA.out).cell]; rfl
    have K4 := Lib.hid k4
    have HT := Lib.hid (rcnt_calls w4 o.n)
    clear keep sz k4
    go_upto_region 24 with fail
    go_cut [5] (fun v w6 => w4 = w6 ∧ v = .bool (bad || !decide (0 ≤ o.n ∧ o.n ≤ 1048576)))
    case first =>
      by_cases hn0 : o.n < 0
      · cases bad <;> (go_wp2_with fail; go_meet; exact ⟨rfl, congrArg Value.bool (by simp <;> omega)⟩)
      · by_cases hn1 : 1048576 < o.n
        · cases bad <;> (go_wp2_with fail; go_meet; exact ⟨rfl, congrArg Value.bool (by simp <;> omega)⟩)
        · cases bad <;> (go_wp2_with fail; go_meet; exact ⟨rfl, congrArg Value.bool (by simp <;> omega)⟩)
    case rest =>
      obtain ⟨rfl, rfl⟩ := hcut
      go_wp2_with (first
        | (go_at_call 18; (with_reducible refine HT.out.mono ?_); rintro e w5 ho5; obtain ⟨A6, c6, rfl, _, r6, _, f6⟩ := OwnN.rd ho5; have K6 := Lib.hid (K4.out.fr0 f6); have R6 := Lib.hid r6; clear r6 f6 ho5)
        | (at_builtin; go_loud ((refine wpList_appCK rfl (.tmp 98) (.tmp 101) rfl rfl K6.out _ _ _ _ rfl (cntL_length _) R6.out (by omega) ?_); intro A5 c5 w5 k5; have K5 := Lib.hid k5; clear k5)))
      go_meet
      exact ⟨A5, m3 + 3, c5, _, _, _, _, rfl, rfl, K5.out, by split <;> (try rw [List.length_append, cntL_length]) <;> omega, by omega, by have hh := HOK.out.part (0 ≤ o.n ∧ o.n ≤ 1048576) (cntL o.n) (cntL o.n) (fun _ => rfl); rw [Bool.decide_and, Bool.not_and] at hh; exact hh⟩
  · have g0 : ((o.kind.toNat : Int) % 7 == 0) = false := by simp; omega
    have g1 : ((o.kind.toNat : Int) % 7 == 1) = false := by simp; omega
    have g2 : ((o.kind.toNat : Int) % 7 == 2) = false := by simp; omega
    have g3 : ((o.kind.toNat : Int) % 7 == 3) = true := by simp; omega
    clear h7 e4'
    go_wp2_with fail
    refine (K0.out.op (fun ob hi _ _ _ => num_calls wc p ob bs er hi o.v HAT.out.hv.1 HAT.out.hv.2 (by omega))).mono ?_
    rintro e w4 ⟨rfl, k4, keep, sz⟩
    have e3' : w4.cell? ⟨q, 3, none⟩ = some (.int .i64 o.v) := by rw [(keep _ _ _ (Nat.le_refl _) BA.out).cell]; rfl
    have K4 := Lib.hid k4
    have HT := Lib.hid (rnum_calls w4 o.v HAT.out.hv.1 HAT.out.hv.2)
    clear keep sz k4
    go_wp2_with (first
      | (go_at_call 12; (with_reducible refine HT.out.mono ?_); rintro e w5 ho5; obtain ⟨A6, c6, rfl, _, r6, _, f6⟩ := OwnN.rd ho5; have K6 := Lib.hid (K4.out.fr0 f6); have R6 := Lib.hid r6; clear r6 f6 ho5)
      | (at_builtin; go_loud ((refine wpList_appCK rfl (.tmp 109) (.tmp 112) rfl rfl K6.out _ _ _ _ rfl (numB_length _) R6.out (by omega) ?_); intro A5 c5 w5 k5; have K5 := Lib.hid k5; clear k5)))
    go_meet
    exact ⟨A5, m3 + 8, c5, _, er, _, bad, rfl, rfl, K5.out, by simp [numB_length]; omega, by omega, HOK.out.app _⟩
  · have g0 : ((o.kind.toNat : Int) % 7 == 0) = false := by simp; omega
    have g1 : ((o.kind.toNat : Int) % 7 == 1) = false := by simp; omega
    have g2 : ((o.kind.toNat : Int) % 7 == 2) = false := by simp; omega
    have g3 : ((o.kind.toNat : Int) % 7 == 3) = false := by simp; omega
    have g4 : ((o.kind.toNat : Int) % 7 == 4) = true := by simp; omega
    clear h7 e4'
    go_wp2_with fail
    refine (text_any K0.out o.bA o.bC o.b HAT.out.hb (by omega) hbs2).mono ?_
    rintro e w4 ⟨rfl, k4, keep, sz⟩
    have e4' : w4.cell? ⟨q, 4, none⟩ = some (.slice o.bA o.b.length o.bC) := by rw [(keep _ _ _ (Nat.le_refl _) BA.out).cell]; rfl
    have K4 := Lib.hid k4
    have HT := Lib.hid (rtext_calls w4 o.bA o.b.length o.bC o.b rfl (HAT.out.hb.fr k4.fr_ (by simp)) (by omega))
    have hlen : (countB o.b.length ++ o.b).length = 3 + o.b.length := by rw [List.length_append, countB_length]
    have HLN := Lib.hid hlen
    clear keep sz k4 hlen
    go_wp2_with (first
      | (go_at_call 11; (with_reducible refine HT.out.mono ?_); rintro e w5 ho5; obtain ⟨A6, c6, rfl, _, r6, _, f6⟩ := OwnN.rd ho5; have K6 := Lib.hid (K4.out.fr0 f6); have R6 := Lib.hid r6; clear r6 f6 ho5)
      | (at_builtin; go_loud ((refine wpList_appCK rfl (.tmp 120) (.tmp 123) rfl rfl K6.out _ _ _ _ rfl HLN.out R6.out (by omega) ?_); intro A5 c5 w5 k5; have K5 := Lib.hid k5; clear k5)))
    go_meet
    exact ⟨A5, m3 + (3 + o.b.length), c5, _, er, _, bad, rfl, rfl, K5.out, by rw [List.length_append, HLN.out]; omega, by omega, HOK.out.app _⟩
  · have g0 : ((o.kind.toNat : Int) % 7 == 0) = false := by simp; omega
    have g1 : ((o.kind.toNat : Int) % 7 == 1) = false := by simp; omega
    have g2 : ((o.kind.toNat : Int) % 7 == 2) = false := by simp; omega
    have g3 : ((o.kind.toNat : Int) % 7 == 3) = false := by simp; omega
    have g4 : ((o.kind.toNat : Int) % 7 == 4) = false := by simp; omega
    have g5 : ((o.kind.toNat : Int) % 7 == 5) = true := by simp; omega
    clear h7 e4'
    have hd : Hid (∀ w', Blk w' q 42 o.cells.toArray → ∀ j v, (u8s o.d)[j]? = some v → w'.cell? ⟨q, 5 + j, none⟩ = some v) := Lib.hid (fun w' hb j v hv => by
      rw [hb.cell, List.getElem?_toArray]
      have hj : j < 32 := by have := (List.getElem?_eq_some_iff.1 hv).1; simpa [HAT.out.dl] using this
      unfold CPart.cells
      rw [List.getElem?_append_left (by simp [HAT.out.dl]; omega), List.getElem?_append_right (by simp)]
      simpa using hv)
    have hdc := hd.out wc BA.out
    have HDC := Lib.hid hdc
    have HDL2 := Lib.hid HAT.out.dl
    clear hdc
    go_wp2_with (refine wpList_load_agg rfl 38 (.tmp 128) rfl q 5 rfl (u8s o.d) _ HDC.out Try.underlying38 rfl (by rw [show (u8s o.d).length = 32 by simp [HDL2.out]]; exact dig_size) ?_)
    refine (K0.out.op (fun ob hi _ _ _ => digest_calls wc p ob bs er hi o.d HDL2.out (by omega))).mono ?_
    rintro e w4 ⟨rfl, k4, keep, sz⟩
    have K4 := Lib.hid k4
    have R4 : Hid (Rd w4 (some ⟨q, 5, none⟩) o.d) := Lib.hid (fun _ => ⟨q, 5, rfl, fun j x hx => hd.out w4 (keep _ _ _ (Nat.le_refl _) BA.out) j _ (by rw [u8s_get, hx]; rfl)⟩)
    clear keep sz k4
    go_wp2_with (at_builtin; go_loud ((refine wpList_appCK rfl (.tmp 131) (.tmp 133) rfl rfl K4.out (some ⟨q, 5, none⟩) 32 32 o.d rfl HDL2.out R4.out (by omega) ?_); intro A5 c5 w5 k5; have K5 := Lib.hid k5; clear k5))
    go_meet
    exact ⟨A5, m3 + 32, c5, _, er, _, bad, rfl, rfl, K5.out, by rw [List.length_append, HDL2.out]; omega, by omega, HOK.out.app _⟩
  · have g0 : ((o.kind.toNat : Int) % 7 == 0) = false := by simp; omega
    have g1 : ((o.kind.toNat : Int) % 7 == 1) = false := by simp; omega
    have g2 : ((o.kind.toNat : Int) % 7 == 2) = false := by simp; omega
    have g3 : ((o.kind.toNat : Int) % 7 == 3) = false := by simp; omega
    have g4 : ((o.kind.toNat : Int) % 7 == 4) = false := by simp; omega
    have g5 : ((o.kind.toNat : Int) % 7 == 5) = false := by simp; omega
    clear h7 e4'
    go_wp2_with fail
    refine (row_any K0.out o.rA o.rC o.r HAT.out.hr HAT.out.hri (by omega) hbs2).mono ?_
    rintro e w4 ⟨rfl, k4, keep, sz⟩
    have e37' : w4.cell? ⟨q, 37, none⟩ = some (.slice o.rA o.r.length o.rC) := by
      rw [(keep _ _ _ (Nat.le_refl _) BA.out).cell, List.getElem?_toArray]; simp [CPart.cells, List.getElem?_append_right, HAT.out.dl]
    have K4 := Lib.hid k4
    have HT := Lib.hid (rrow_calls w4 o.rA o.r.length o.rC o.r rfl (HAT.out.hr.fr k4.fr_ (by simp)) HAT.out.hri (by omega))
    have hlen := rowB_length o.r
    have HLN := Lib.hid hlen
    clear keep sz k4 hlen
    go_upto_region 14 with fail
    go_cut [5] (fun v w6 => w4 = w6 ∧ v = .bool (bad || !decide (o.r.length ≤ 255)))
    case first =>
      by_cases hn0 : (255 : Int) < (o.r.length : Int)
      · cases bad <;> (go_wp2_with fail; go_meet; exact ⟨rfl, congrArg Value.bool (by simp <;> omega)⟩)
      · cases bad <;> (go_wp2_with fail; go_meet; exact ⟨rfl, congrArg Value.bool (by simp <;> omega)⟩)
    case rest =>
      obtain ⟨rfl, rfl⟩ := hcut
      go_wp2_with (first
        | (go_at_call 21; (with_reducible refine HT.out.mono ?_); rintro e w5 ho5; obtain ⟨A6, c6, rfl, _, r6, _, f6⟩ := OwnN.rd ho5; have K6 := Lib.hid (K4.out.fr0 f6); have R6 := Lib.hid r6; clear r6 f6 ho5)
        | (at_builtin; go_loud ((refine wpList_appCK rfl (.tmp 50) (.tmp 53) rfl rfl K6.out _ _ _ _ rfl HLN.out R6.out (by omega) ?_); intro A5 c5 w5 k5; have K5 := Lib.hid k5; clear k5)))
      go_meet
      exact ⟨A5, m3 + (1 + 8 * o.r.length), c5, _, _, _, _, rfl, rfl, K5.out, by split <;> (try rw [List.length_append, HLN.out]) <;> omega, by omega, HOK.out.part (o.r.length ≤ 255) _ _ (fun _ => rfl)⟩
end Go.Proofs.Ytaclinojbifkbaa
