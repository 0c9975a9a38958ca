/- skerryref01.BytesApart: its contract, over a family of rows of one's own. -/
import Derived.Test.YtkfeigigjilaiaaDoorKGrow
import Derived.Test.YtkfeigigjilaiaaDoorWTab
import Derived.StillTailTactics
import Derived.StillTactics
import Derived.Outline
import Derived.Deep.QuietTactic
import Derived.BigQuiet
import Derived.Deep.CutRange
namespace Go.Proofs.YtkfeigigjilaiaaDoor.Keeps
open Go.RowKit Go.Proofs.YtkfeigigjilaiaaDoorW.PrintWords Go.Proofs.YtkfeigigjilaiaaDoorW.PrintLast Go.Proofs.YtkfeigigjilaiaaDoorW.PrintMore
set_option linter.unusedVariables false
set_option linter.unusedSimpArgs false
theorem mark_still (n : Int) (w : World) : Calls Tryd.prog 24 #[.int .i64 n] w fun e w' => e = .returned (.int .u8 (mk n)) ∧ w' = w := mark_calls n w
theorem Fr.drawn {S : Nat → Prop} {w w1 w2 : World} (h : Fr S w w1) (d : Drawn0 w1 w2) : Fr S w w2 := by
  obtain ⟨n, rfl⟩ := d
  exact h.drewN n
theorem Rd.drawn {w w2 : World} {v : Value} {b : Option Nat} {xs : List Int} (h : Rd w v b xs) (d : Drawn0 w w2) : Rd w2 v b xs := by
  obtain ⟨n, rfl⟩ := d
  exact h.keep fun _ _ => rfl
theorem cell_drawn {w w2 : World} (d : Drawn0 w w2) (a : Addr) : w2.cell? a = w.cell? a := by
  obtain ⟨n, rfl⟩ := d
  rfl
theorem Drawn0.stepN {w w1 : World} (d : Drawn0 w w1) (n : Nat) : Drawn0 w (w1.drewN n) := by
  obtain ⟨m, rfl⟩ := d
  exact ⟨⟨m + n, by rw [World.drewN_drewN]⟩⟩
theorem infoSB : ∃ i, Tryd.prog.info? 22 = some i ∧ i.zero = some (.slice none 0 0) ∧ i.size = 1 ∧ i.bytes = 24 := by
  obtain ⟨i, hi, h3⟩ := Option.map_eq_some_iff.1 (show (Tryd.prog.info? 22).map (fun i => (i.zero, i.size, i.bytes)) = some (some (.slice none 0 0), 1, 24) by kernel_rfl)
  simp only [Prod.mk.injEq] at h3
  exact ⟨i, hi, h3⟩
theorem World.news_of_block' {w : World} {g : Nat} {t : TypeId} {x : Value} (h : w.heap[g]? = some (.cells #[x] t (0, 0))) : ∀ j u, [x][j]? = some u → w.cell? ((⟨g, 0, none⟩ : Addr).add j) = some u := by
  intro j u hu
  have ha : (⟨g, 0, none⟩ : Addr).add j = ⟨g, j, none⟩ := by unfold Addr.add; split <;> simp_all
  rw [ha, blk_cell h j]
  simpa using hu
set_option maxHeartbeats 16000000 in
set_option maxRecDepth 100000 in
theorem apart_calls (G c n : Nat) (vs : Nat → Value) (bs : Nat → Option Nat) (L : Nat → Nat) (w : World) (F : Fam n vs bs L G w.heap.size) (hpos : 0 < n) (hA : All w n vs bs L 0 0) (hH : ∀ k, k < n → w.cell? ⟨G, k, none⟩ = some (vs k)) :
    Calls Tryd.prog 14 #[.slice (some ⟨G, 0, none⟩) n c] w fun e w' => e = .returned (.bool true) ∧ Fr (Ours n bs) w w' := by
  have FF := Aside0.mk F
  have HA := Aside0.mk hA
  have HH := Aside0.mk hH
  have hn : n ≤ 1000 := F.small
  clear F hA hH
  have hHead : Aside0 (∀ w', Fr (Ours n bs) w w' → ∀ k, k < n → w'.cell? ⟨G, k, none⟩ = some (vs k)) := ⟨fun w' h k hk => (World.cell?_of_block (w := w) (h.block G FF.out.hG FF.out.notG)).trans (HH.out k hk)⟩
  go_enter Tryd.func14, Tryd.ntmps14
  go_wp2
  go_loopg [3, 4] n (fun kq v3 v4 w' => ∃ i : Nat, v4 = .int .i64 (i : Int) ∧ i ≤ n ∧ n - i ≤ kq ∧ v3 = .int .i64 (off L i : Int) ∧ Aside0 (All w' n vs bs L i 0) ∧ Aside0 (Fr (Ours n bs) w w'))
  case atStart => exact ⟨0, rfl, by omega, by omega, rfl, HA, ⟨Fr.refl _ _⟩⟩
  case round =>
    obtain ⟨i, rfl, hi, hk, rfl, HA1, HF1⟩ := hrel
    by_cases hlt : i < n
    · cases gk with
      | zero => omega
      | succ k1 =>
        have d0 : decide ((i : Int) < (n : Int)) = true := decide_eq_true (by omega)
        obtain ⟨A, ca, hv⟩ := (HA1.out.at hlt).form
        have HV := Aside0.mk hv
        clear hv
        have HI := Aside0.mk hlt
        have hoff := FF.out.offs i (by omega)
        have hLi := FF.out.len i hlt
        obtain ⟨q0, hq0⟩ : ∃ q0, off L i = q0 := ⟨_, rfl⟩
        have HQ := Aside0.mk hq0
        rw [hq0] at hoff ⊢
        clear hq0
        obtain ⟨Li, hLi0⟩ : ∃ Li, L i = Li := ⟨_, rfl⟩
        rw [hLi0] at hLi
        have HL := Aside0.mk hLi0
        rw [hLi0] at HV
        clear hLi0
        go_wp2
        obtain ⟨wo, rfl⟩ : ∃ wo : World, wo = wr := ⟨_, rfl⟩
        go_loopg [3, 5] Li (fun kq v3 v5 w' => ∃ j : Nat, v5 = .int .i64 (j : Int) ∧ j ≤ Li ∧ Li - j ≤ kq ∧ v3 = .int .i64 ((q0 + j : Nat) : Int) ∧ Aside0 (All w' n vs bs L i j) ∧ Aside0 (Fr (Ours n bs) w w'))
        case atStart => exact ⟨0, rfl, by omega, by omega, rfl, HA1, HF1⟩
        case round =>
          obtain ⟨j, rfl, hj, hkj, rfl, HA2, HF2⟩ := hrel
          have hc0 := hHead.out _ HF2.out i HI.out
          rw [HV.out] at hc0
          have p0 : (0 : Int) ≤ (i : Int) := by omega
          have p1 : (i : Int) < (n : Int) := by omega
          by_cases hltj : j < Li
          · cases gk with
            | zero => omega
            | succ k2 =>
              have d1 : decide ((j : Int) < (Li : Int)) = true := decide_eq_true (by omega)
              have p2 : (0 : Int) ≤ (j : Int) := by omega
              have p3 : (j : Int) < (Li : Int) := by omega
              obtain ⟨g, cap, u, hours, hv, hcell, hfr, hnext⟩ := HA2.out.step FF.out HI.out (by rw [HL.out]; exact hltj)
              rw [HV.out] at hv
              rw [HL.out] at hv
              injection hv with hv1 hv2 hv3
              subst hv1 hv3
              have HO := Aside0.mk hours
              have HN := Aside0.mk hnext
              clear hours hnext
              clear hv2
              go_wp2
              go_still_tail 8, (by kernel_rfl)
              still_call (mark_still _ _)
              repeat still_step
              refine wpStill_nil ?_
              go_wp2
              go_roundg k2
              case measure => omega
              case rel =>
                refine ⟨j + 1, rfl, by omega, by omega, by go_num, ⟨?_⟩, ⟨?_⟩⟩
                · have hz := HN.out 1
                  rw [HQ.out] at hz
                  exact hz
                · exact (HF2.out.setCell (p := ⟨g, j, none⟩) (.inl HO.out) _).drewN 1
          · obtain rfl : j = Li := by omega
            have d1 : decide ((j : Int) < (j : Int)) = false := decide_eq_false (by omega)
            go_wp2
            go_roundg k1
            case measure => omega
            case rel =>
              refine ⟨i + 1, rfl, by omega, by omega, ?_, ⟨?_⟩, HF2⟩
              · rw [← HQ.out, ← HL.out]; rfl
              · exact All.next (by rw [HL.out]; exact HA2.out)
    · obtain rfl : i = n := by omega
      have d0 : decide ((i : Int) < (i : Int)) = false := decide_eq_false (by omega)
      have hS : St wr w.heap.size i vs bs L 0 0 (fun _ => .slice none 0 0) (fun _ => 0) (.slice none 0 0) := ⟨fun k hk => (HA1.out.done k hk).rd, fun k _ hk => HA1.out.done k hk, fun k hk => by omega, fun k hk => by omega, fun k l hk => by omega, World.ownsRow_nil _ _ _ _, fun k hk => by omega, HF1.out.size⟩
      have HS := Aside0.mk hS
      clear hS HA1 HA HH
      go_wp2
      obtain ⟨N0, hN0⟩ : ∃ N0, off L i = N0 := ⟨_, rfl⟩
      have hNb : N0 ≤ 140737488355000000 := by rw [← hN0]; exact FF.out.offs i (Nat.le_refl _)
      have HN0 := Aside0.mk hN0
      rw [hN0]
      clear hN0
      obtain ⟨wo, rfl⟩ : ∃ wo : World, wo = wr := ⟨_, rfl⟩
      go_loopg [6, 7, 8] i (fun kq v6 v7 v8 w' => ∃ (q : Nat) (gs : Nat → Value) (cs : Nat → Nat), v8 = .int .i64 (q : Int) ∧ q ≤ i ∧ i - q ≤ kq ∧ v7 = .int .i64 ((N0 + 6 * q : Nat) : Int) ∧ Aside0 (St w' w.heap.size i vs bs L q q gs cs v6) ∧ Aside0 (Fr (Ours i bs) w w'))
      case atStart => exact ⟨0, _, _, rfl, by omega, by omega, rfl, HS, HF1⟩
      case round =>
        obtain ⟨q, gs, cs, rfl, hq, hkq, rfl, HS1, HF2⟩ := hrel
        by_cases hlt2 : q < i
        · cases gk with
          | zero => omega
          | succ k1 =>
            have d1 : decide ((q : Int) < (i : Int)) = true := decide_eq_true (by omega)
            have p0 : (0 : Int) ≤ (q : Int) := by omega
            have p1 : (q : Int) < (i : Int) := by omega
            have hc0 := hHead.out _ HF2.out q hlt2
            have HC : Aside0 (Cur wr w.heap.size i bs L q cs u6 0 (vs q) (bs q)) := ⟨⟨by simp only [M_zero, List.append_nil]; exact HS1.out.full q (Nat.le_refl _) hlt2, .inl rfl⟩⟩
            have HS2 : Aside0 (St wr w.heap.size i vs bs L q (q + 1) gs cs u6) := ⟨⟨HS1.out.rows, fun k h1 h2 => HS1.out.full k (by omega) h2, HS1.out.grown, HS1.out.kinds, HS1.out.apart, HS1.out.own, HS1.out.sep, HS1.out.size⟩⟩
            have HI := Aside0.mk hlt2
            have hLq := FF.out.len q hlt2
            have HLq := Aside0.mk hLq
            clear hLq HS1
            go_wp2
            obtain ⟨wi, rfl⟩ : ∃ wi : World, wi = wr := ⟨_, rfl⟩
            go_loopg [7, 9, 10] 6 (fun kq v7 v9 v10 w' => ∃ (t : Nat) (cb : Option Nat), v10 = .int .i64 (t : Int) ∧ t ≤ 6 ∧ 6 - t ≤ kq ∧ v7 = .int .i64 ((N0 + 6 * q + t : Nat) : Int) ∧ Aside0 (St w' w.heap.size i vs bs L q (q + 1) gs cs u6) ∧ Aside0 (Cur w' w.heap.size i bs L q cs u6 t v9 cb) ∧ Aside0 (0 < t → ∃ h, cb = some h) ∧ Aside0 (Fr (Ours i bs) w w'))
            case atStart => exact ⟨0, _, rfl, by omega, by omega, rfl, HS2, HC, ⟨fun h => by omega⟩, HF2⟩
            case round =>
              obtain ⟨t, cb, rfl, ht, hkt, rfl, HS3, HC3, HB3, HF3⟩ := hrel
              by_cases hlt3 : t < 6
              · cases gk with
                | zero => omega
                | succ k2 =>
                  have d2 : decide ((t : Int) < 6) = true := decide_eq_true (by omega)
                  have HT := Aside0.mk hlt3
                  have HSa := Aside0.mk (HS3.out.keep (W := wr.alloc (.cells #[.int .u8 (mk ((N0 + 6 * q + t : Nat) : Int))] 5)) (by simp) (fun k hk => Below.heap_alloc _ _ _ hk))
                  have HCa := Aside0.mk (HC3.out.keep (W := wr.alloc (.cells #[.int .u8 (mk ((N0 + 6 * q + t : Nat) : Int))] 5)) (fun k hk => Below.heap_alloc _ _ _ hk))
                  have HFa := Aside0.mk (HF3.out.alloc (.cells #[.int .u8 (mk ((N0 + 6 * q + t : Nat) : Int))] 5))
                  have HX := Aside0.mk ((blk_cell (blk_new wr (.cells #[.int .u8 (mk ((N0 + 6 * q + t : Nat) : Int))] 5)) 0).trans rfl)
                  have HLen : Aside0 ((M (off L q) (L q) ++ M (off L i + 6 * q) t).length + 1 ≤ 140737488355328) := ⟨by rw [List.length_append, M_len, M_len]; have := HLq.out; omega⟩
                  clear HS3 HC3 HF3 HB3
                  go_wp2_with (first | (go_at_call 24; refine (mark_calls _ _).mono ?_; rintro e w' ⟨rfl, rfl⟩) | (at_builtin; refine wpList_append_row (by rfl) (.tmp 55) (.tmp 58) (by rfl) _ _ _ _ _ _ (by rfl) (by rfl) HCa.out.row HX.out HLen.out ?_; intro v' w' h' hrow hgr; have HR := Aside0.mk hrow; have HGr := Aside0.mk hgr; clear hrow hgr))
                  go_roundg k2
                  case measure => omega
                  case rel =>
                    have hS0 := grow_step FF.out HSa.out HI.out HCa.out (by rw [HN0.out]; have z := HR.out; rw [HN0.out] at z; exact z) HGr.out
                    refine ⟨t + 1, some h', rfl, by omega, by omega, by go_num, ⟨hS0.1⟩, ⟨hS0.2⟩, ⟨fun _ => ⟨h', rfl⟩⟩, ⟨?_⟩⟩
                    rcases HGr.out with ⟨e, hg⟩ | ⟨e, hg⟩
                    · refine HFa.out.grown hg fun k hk => ?_
                      rcases HCa.out.kind with c | ⟨p, c, c1, _⟩
                      · exact .inl ⟨q, HI.out, by rw [← c, hk]⟩
                      · rw [hk] at c; cases c; exact .inr c1
                    · exact HFa.out.grown hg fun k hk => by cases hk
              · obtain rfl : t = 6 := by omega
                have d2 : decide ((6 : Int) < 6) = false := by decide
                obtain ⟨h0, rfl⟩ := HB3.out (by omega)
                obtain ⟨A9, n9, c9, rfl⟩ : ∃ A n c, u9 = .slice A n c := by obtain ⟨A, c, h⟩ := HC3.out.row.rd.form; exact ⟨A, _, c, h⟩
                have HSa := Aside0.mk (HS3.out.keep (W := wr.alloc (.cells #[.slice A9 n9 c9] 22)) (by simp) (fun k hk => Below.heap_alloc _ _ _ hk))
                have HCa := Aside0.mk (HC3.out.keep (W := wr.alloc (.cells #[.slice A9 n9 c9] 22)) (fun k hk => Below.heap_alloc _ _ _ hk))
                have HFa := Aside0.mk (HF3.out.alloc (.cells #[.slice A9 n9 c9] 22))
                have HX := Aside0.mk (World.news_of_block' (blk_new wr (.cells #[.slice A9 n9 c9] 22)))
                clear HS3 HC3 HF3 HB3
                obtain ⟨i24, hi24, hz24, hs24, hb24⟩ := infoSB
                go_wp2_with (at_builtin; refine wpList_append_own_at _ (by rfl) (.tmp 62) (.tmp 64) 38 (by rfl) w.heap.size 22 i24 (.slice none 0 0) 1 24 Tryd.underlying38 hi24 hz24 hs24 hb24 rfl (by decide) _ _ _ (by rfl) HSa.out.own ⟨wr.heap.size, 0, none⟩ 1 1 [.slice A9 n9 c9] (by rfl) rfl HX.out (by simp [Value.oneCell']) (by unfold maxLen; omega) (by omega) HSa.out.size ?_; intro v' w' hown hgr _ hat; have HR := Aside0.mk hown; have HGr := Aside0.mk hgr; have HAt := Aside0.mk hat; clear hown hgr hat)
                clear hi24 hz24 hs24 hb24
                go_roundg k1
                case measure => omega
                case rel =>
                  obtain ⟨gs', cs', hS'⟩ := grow_next FF.out HSa.out HI.out HCa.out HR.out HGr.out HAt.out
                  have hq1 := HI.out
                  refine ⟨q + 1, gs', cs', by go_num, by omega, by omega, by go_num, ⟨hS'⟩, ⟨HFa.out.grown HGr.out fun k hk => .inr ?_⟩⟩
                  exact (HSa.out.own.lt k hk).1
        · obtain rfl : q = i := by omega
          have d1 : decide ((q : Int) < (q : Int)) = false := decide_eq_false (by omega)
          obtain ⟨hv, capv, hu6, hgs⟩ : ∃ hv capv, u6 = .slice (some ⟨hv, 0, none⟩) q capv ∧ ∀ k, k < q → wr.cell? ⟨hv, k, none⟩ = some (gs k) := by
            rcases HS1.out.own.2 with ⟨_, h0⟩ | ⟨g, cap, cur, h1, _⟩
            · omega
            · refine ⟨g, cap, h1, fun k hk => ?_⟩
              have := HS1.out.own.cells (g := g) (by rw [h1]; rfl) k (gs k) (by simp [hk])
              have ha : (⟨g, 0, none⟩ : Addr).add k = ⟨g, k, none⟩ := by unfold Addr.add; split <;> simp_all
              rw [ha] at this
              exact this
          have HGs := Aside0.mk hgs
          subst hu6
          have HRows := Aside0.mk HS1.out.rows
          have HGrown := Aside0.mk HS1.out.grown
          clear HS1 hgs HS
          go_wp2
          obtain ⟨wc, rfl⟩ : ∃ wc : World, wc = wr := ⟨_, rfl⟩
          go_loopg [3, 11] q (fun kq v3 v11 w' => ∃ i : Nat, v11 = .int .i64 (i : Int) ∧ i ≤ q ∧ q - i ≤ kq ∧ v3 = .int .i64 (off L i : Int) ∧ Aside0 (Drawn0 wc w'))
          case atStart => exact ⟨0, rfl, by omega, by omega, rfl, ⟨Drawn0.refl _⟩⟩
          case round =>
            obtain ⟨i, rfl, hi2, hk2, rfl, HD1⟩ := hrel
            by_cases hlt2 : i < q
            · cases gk with
              | zero => omega
              | succ k1 =>
                have d2 : decide ((i : Int) < (q : Int)) = true := decide_eq_true (by omega)
                have p0 : (0 : Int) ≤ (i : Int) := by omega
                have p1 : (i : Int) < (q : Int) := by omega
                have hoff := FF.out.offs i (by omega)
                have hLi := FF.out.len i hlt2
                obtain ⟨q0, hq0⟩ : ∃ q0, off L i = q0 := ⟨_, rfl⟩
                have HQ := Aside0.mk hq0
                obtain ⟨Li, hLi0⟩ : ∃ Li, L i = Li := ⟨_, rfl⟩
                have HL := Aside0.mk hLi0
                have HRw : Aside0 (Rd wc (vs i) (bs i) (M q0 Li)) := ⟨by rw [← hq0, ← hLi0]; exact HRows.out i hlt2⟩
                rw [hq0] at hoff ⊢
                rw [hLi0] at hLi
                clear hq0 hLi0
                obtain ⟨A, ca, hvf⟩ := HRw.out.form
                rw [M_len] at hvf
                have HV := Aside0.mk hvf
                clear hvf
                have HI := Aside0.mk hlt2
                go_wp2
                go_loopg [3, 12] Li (fun kq v3 v12 w' => ∃ j : Nat, v12 = .int .i64 (j : Int) ∧ j ≤ Li ∧ Li - j ≤ kq ∧ v3 = .int .i64 ((q0 + j : Nat) : Int) ∧ Aside0 (Drawn0 wc w'))
                case atStart => exact ⟨0, rfl, by omega, by omega, rfl, HD1⟩
                case round =>
                  obtain ⟨j, rfl, hj, hkj, rfl, HD2⟩ := hrel
                  have hc0 := hHead.out _ (HF2.out.drawn HD2.out) i HI.out
                  rw [HV.out] at hc0
                  by_cases hltj : j < Li
                  · cases gk with
                    | zero => omega
                    | succ k2 =>
                      have d3 : decide ((j : Int) < (Li : Int)) = true := decide_eq_true (by omega)
                      have p2 : (0 : Int) ≤ (j : Int) := by omega
                      have p3 : (j : Int) < (Li : Int) := by omega
                      obtain ⟨g, cap, hvg, hcell⟩ := (HRw.out.drawn HD2.out).at j _ (M_at q0 Li j hltj)
                      rw [M_len] at hvg
                      rw [HV.out] at hvg
                      injection hvg with hv1 hv2 hv3
                      subst hv1 hv3
                      clear hv2
                      go_wp2
                      go_quiet ((go_at_call 24; exact Calls.quiet_of_same (mark_still _ _)))
                      go_wp2
                      go_roundg k2
                      case measure => omega
                      case rel => exact ⟨j + 1, rfl, by omega, by omega, by go_num, ⟨Drawn0.stepN HD2.out _⟩⟩
                  · obtain rfl : j = Li := by omega
                    have d3 : decide ((j : Int) < (j : Int)) = false := decide_eq_false (by omega)
                    go_wp2
                    go_roundg k1
                    case measure => omega
                    case rel => exact ⟨i + 1, rfl, by omega, by omega, by rw [← HQ.out, ← HL.out]; rfl, HD2⟩
            · obtain rfl : i = q := by omega
              have d2 : decide ((i : Int) < (i : Int)) = false := decide_eq_false (by omega)
              rw [HN0.out]
              go_wp2
              go_loopg [3, 13] i (fun kq v3 v13 w' => ∃ a : Nat, v13 = .int .i64 (a : Int) ∧ a ≤ i ∧ i - a ≤ kq ∧ v3 = .int .i64 ((N0 + 6 * a : Nat) : Int) ∧ Aside0 (Drawn0 wc w'))
              case atStart => exact ⟨0, rfl, by omega, by omega, rfl, HD1⟩
              case round =>
                obtain ⟨a, rfl, ha, hka, rfl, HD2⟩ := hrel
                by_cases hlta : a < i
                · cases gk with
                  | zero => omega
                  | succ k1 =>
                    have d3 : decide ((a : Int) < (i : Int)) = true := decide_eq_true (by omega)
                    have p0 : (0 : Int) ≤ (a : Int) := by omega
                    have p1 : (a : Int) < (i : Int) := by omega
                    have hLa := FF.out.len a hlta
                    obtain ⟨La, hLa0⟩ : ∃ La, L a = La := ⟨_, rfl⟩
                    have HL := Aside0.mk hLa0
                    obtain ⟨A, ca, hvf⟩ := (HRows.out a hlta).form
                    rw [M_len, hLa0] at hvf
                    have HV := Aside0.mk hvf
                    have HGw : Aside0 (Rd wc (gs a) (some (cs a)) (M (off L a) La ++ M (N0 + 6 * a) 6)) := ⟨by have z := (HGrown.out a hlta).rd; rw [HN0.out, hLa0] at z; exact z⟩
                    obtain ⟨Ag, cg, hgf⟩ := HGw.out.form
                    rw [List.length_append, M_len, M_len] at hgf
                    have HGf := Aside0.mk hgf
                    rw [hLa0] at hLa
                    have HI := Aside0.mk hlta
                    clear hvf hgf hLa0
                    have hc0 := hHead.out _ (HF2.out.drawn HD2.out) a HI.out
                    rw [HV.out] at hc0
                    go_wp2
                    clear hc0
                    go_loopg [3, 14] 6 (fun kq v3 v14 w' => ∃ t : Nat, v14 = .int .i64 ((La + t : Nat) : Int) ∧ t ≤ 6 ∧ 6 - t ≤ kq ∧ v3 = .int .i64 ((N0 + 6 * a + t : Nat) : Int) ∧ Aside0 (Drawn0 wc w'))
                    case atStart => exact ⟨0, rfl, by omega, by omega, rfl, HD2⟩
                    case round =>
                      obtain ⟨t, rfl, ht, hkt, rfl, HD3⟩ := hrel
                      have hc0 := (cell_drawn HD3.out _).trans (HGs.out a HI.out)
                      rw [HGf.out] at hc0
                      by_cases hltt : t < 6
                      · cases gk with
                        | zero => omega
                        | succ k2 =>
                          obtain ⟨m, hm⟩ : ∃ m, La + t = m := ⟨_, rfl⟩
                          obtain ⟨lg, hlg⟩ : ∃ lg, La + 6 = lg := ⟨_, rfl⟩
                          have HM := Aside0.mk hm
                          have HLG := Aside0.mk hlg
                          have d4 : decide ((m : Int) < (lg : Int)) = true := decide_eq_true (by omega)
                          have p2 : (0 : Int) ≤ (m : Int) := by omega
                          have p3 : (m : Int) < (lg : Int) := by omega
                          have p4 : m ≤ 140737488355010 := by omega
                          obtain ⟨g, cap, hvg, hcell⟩ := (HGw.out.drawn HD3.out).at m (mk ((N0 + 6 * a + t : Nat) : Int)) (by rw [List.getElem?_append_right (by rw [M_len]; omega), M_len, show m - La = t by omega]; exact M_at _ _ _ hltt)
                          rw [List.length_append, M_len, M_len] at hvg
                          rw [HGf.out] at hvg
                          injection hvg with hv1 hv2 hv3
                          subst hv1 hv3
                          rw [hlg] at hc0
                          rw [hm]
                          clear hv2 hm hlg
                          go_wp2
                          go_quiet ((go_at_call 24; exact Calls.quiet_of_same (mark_still _ _)))
                          go_wp2
                          go_roundg k2
                          case measure => omega
                          case rel => exact ⟨t + 1, by rw [← Nat.add_assoc, HM.out]; go_num, by omega, by omega, by go_num, ⟨Drawn0.stepN HD3.out _⟩⟩
                      · obtain rfl : t = 6 := by omega
                        have d4 : decide (((La + 6 : Nat) : Int) < ((La + 6 : Nat) : Int)) = false := decide_eq_false (by omega)
                        obtain ⟨lg, hlg⟩ : ∃ lg, La + 6 = lg := ⟨_, rfl⟩
                        rw [hlg] at hc0 d4 ⊢
                        clear hlg
                        go_wp2
                        go_roundg k1
                        case measure => omega
                        case rel => exact ⟨a + 1, by go_num, by omega, by omega, by go_num, HD3⟩
                · obtain rfl : a = i := by omega
                  have d3 : decide ((a : Int) < (a : Int)) = false := decide_eq_false (by omega)
                  go_wp2
                  go_ret
                  exact ⟨rfl, HF2.out.drawn HD2.out⟩
end Go.Proofs.YtkfeigigjilaiaaDoor.Keeps
