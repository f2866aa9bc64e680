/-
  AM, part 48: the walk's steps, as lemmas that find their own proofs. Written by gen48.py.
-/
import Derived.Test.YtfbmbjfcgoahfaaAM47
import Derived.KernelRfl
set_option linter.unusedVariables false
namespace Go.AM
open Go

/-- A proof that nothing but its own word hands out. -/
structure Held (p : Prop) : Prop where
  out : p
theorem Z0 {p q : Prop} (hq : q) (h : Held q → p := by
    intro h
    first
      | with_reducible first | exact W_seq h.out | exact W_block h.out | exact W_skip h.out | exact N_code h.out | exact N_blk h.out | exact W_exit h.out | exact E_code h.out | exact E_blk_ne (by decide) h.out | exact W_ret h.out | exact R_code h.out | exact R_blk h.out | exact L_ret h.out | exact F_ret h.out | exact F_out (by decide) h.out | exact FW_ret h.out | exact FW_out (by decide) h.out | exact R_nil h.out
      | ((with_reducible apply W_condT); (case hb => exact rfl); (case hw => with_reducible rfl); (case h => exact h.out))
      | ((with_reducible apply W_condF); (case hb => exact rfl); (case hw => with_reducible rfl); (case h => exact h.out))
      | ((with_reducible apply D_admE); (case hop => exact rfl); (case ha => exact rfl); (case hna => exact rfl); (try case hl => exact tT); (case hg => exact gT); (case hy => exact rfl); (case ht => exact pT); (case hn => exact nT); (try case hc => exact rfl); (case h => exact h.out))
      | ((with_reducible apply D_adrE); (case ha => exact rfl); (case hna => exact rfl); (try case hl => exact tT); (case hg => exact gT); (case hs => simp (maxSteps := 2000000) (disch := omega) only [go_sem]; exact rfl); (case ht => exact pT); (case hn => exact nT); (try case hc => exact rfl); (case h => exact h.out))
      | ((with_reducible first | apply AO_mvE | apply V_mvE | apply D_mvE); (case hop => exact rfl); (case hg => exact gT); (try case hw => exact rfl); (try case hl => exact tT); (case hy => exact rfl); (case ht => exact pT); (case hn => exact nT); (try case hc => exact rfl); (case h => exact h.out))
      | ((with_reducible first | apply AO_stepE | apply V_stepE | apply D_stepE); (case hg => exact gT); (try case hw => exact rfl); (try case hl => exact tT); (case hs => simp (maxSteps := 2000000) (disch := omega) only [go_sem]; exact rfl); (case ht => exact pT); (case hn => exact nT); (try case hc => exact rfl); (case h => exact h.out))
      | ((with_reducible first | apply AO_skipE | apply V_skipE | apply D_skipE); (case hg => exact gF); (case ht => exact pT); (case hn => exact nT); (try case hc => exact rfl); (case h => exact h.out))
      | fail) : p := h ⟨hq⟩
theorem Z1 {p q : Prop} (hq : q) (h : Held q → p := by
    intro h
    first
      | with_reducible first | exact W_seq h.out | exact W_block h.out | exact W_skip h.out | exact N_code h.out | exact N_blk h.out | exact W_exit h.out | exact E_code h.out | exact E_blk_ne (by decide) h.out | exact W_ret h.out | exact R_code h.out | exact R_blk h.out | exact L_ret h.out | exact F_ret h.out | exact F_out (by decide) h.out | exact FW_ret h.out | exact FW_out (by decide) h.out | exact R_nil h.out
      | ((with_reducible apply W_condT); (case hb => exact rfl); (case hw => with_reducible rfl); (case h => exact h.out))
      | ((with_reducible apply W_condF); (case hb => exact rfl); (case hw => with_reducible rfl); (case h => exact h.out))
      | ((with_reducible apply D_admE); (case hop => exact rfl); (case ha => exact rfl); (case hna => exact rfl); (try case hl => exact tT); (case hg => exact gT); (case hy => exact rfl); (case ht => exact pT); (case hn => exact nT); (try case hc => exact rfl); (case h => exact h.out))
      | ((with_reducible apply D_adrE); (case ha => exact rfl); (case hna => exact rfl); (try case hl => exact tT); (case hg => exact gT); (case hs => simp (maxSteps := 2000000) (disch := omega) only [go_sem, zz1]; exact rfl); (case ht => exact pT); (case hn => exact nT); (try case hc => exact rfl); (case h => exact h.out))
      | ((with_reducible first | apply AO_mvE | apply V_mvE | apply D_mvE); (case hop => exact rfl); (case hg => exact gT); (try case hw => exact rfl); (try case hl => exact tT); (case hy => exact rfl); (case ht => exact pT); (case hn => exact nT); (try case hc => exact rfl); (case h => exact h.out))
      | ((with_reducible first | apply AO_stepE | apply V_stepE | apply D_stepE); (case hg => exact gT); (try case hw => exact rfl); (try case hl => exact tT); (case hs => simp (maxSteps := 2000000) (disch := omega) only [go_sem, zz1]; exact rfl); (case ht => exact pT); (case hn => exact nT); (try case hc => exact rfl); (case h => exact h.out))
      | ((with_reducible first | apply AO_skipE | apply V_skipE | apply D_skipE); (case hg => exact gF); (case ht => exact pT); (case hn => exact nT); (try case hc => exact rfl); (case h => exact h.out))
      | fail) : p := h ⟨hq⟩
theorem Z2 {p q : Prop} (hq : q) (h : Held q → p := by
    intro h
    first
      | with_reducible first | exact W_seq h.out | exact W_block h.out | exact W_skip h.out | exact N_code h.out | exact N_blk h.out | exact W_exit h.out | exact E_code h.out | exact E_blk_ne (by decide) h.out | exact W_ret h.out | exact R_code h.out | exact R_blk h.out | exact L_ret h.out | exact F_ret h.out | exact F_out (by decide) h.out | exact FW_ret h.out | exact FW_out (by decide) h.out | exact R_nil h.out
      | ((with_reducible apply W_condT); (case hb => exact rfl); (case hw => with_reducible rfl); (case h => exact h.out))
      | ((with_reducible apply W_condF); (case hb => exact rfl); (case hw => with_reducible rfl); (case h => exact h.out))
      | ((with_reducible apply D_admE); (case hop => exact rfl); (case ha => exact rfl); (case hna => exact rfl); (try case hl => exact tT); (case hg => exact gT); (case hy => exact rfl); (case ht => exact pT); (case hn => exact nT); (try case hc => exact rfl); (case h => exact h.out))
      | ((with_reducible apply D_adrE); (case ha => exact rfl); (case hna => exact rfl); (try case hl => exact tT); (case hg => exact gT); (case hs => simp (maxSteps := 2000000) (disch := omega) only [go_sem, zz1, zz2]; exact rfl); (case ht => exact pT); (case hn => exact nT); (try case hc => exact rfl); (case h => exact h.out))
      | ((with_reducible first | apply AO_mvE | apply V_mvE | apply D_mvE); (case hop => exact rfl); (case hg => exact gT); (try case hw => exact rfl); (try case hl => exact tT); (case hy => exact rfl); (case ht => exact pT); (case hn => exact nT); (try case hc => exact rfl); (case h => exact h.out))
      | ((with_reducible first | apply AO_stepE | apply V_stepE | apply D_stepE); (case hg => exact gT); (try case hw => exact rfl); (try case hl => exact tT); (case hs => simp (maxSteps := 2000000) (disch := omega) only [go_sem, zz1, zz2]; exact rfl); (case ht => exact pT); (case hn => exact nT); (try case hc => exact rfl); (case h => exact h.out))
      | ((with_reducible first | apply AO_skipE | apply V_skipE | apply D_skipE); (case hg => exact gF); (case ht => exact pT); (case hn => exact nT); (try case hc => exact rfl); (case h => exact h.out))
      | fail) : p := h ⟨hq⟩
theorem Z3 {p q : Prop} (hq : q) (h : Held q → p := by
    intro h
    first
      | with_reducible first | exact W_seq h.out | exact W_block h.out | exact W_skip h.out | exact N_code h.out | exact N_blk h.out | exact W_exit h.out | exact E_code h.out | exact E_blk_ne (by decide) h.out | exact W_ret h.out | exact R_code h.out | exact R_blk h.out | exact L_ret h.out | exact F_ret h.out | exact F_out (by decide) h.out | exact FW_ret h.out | exact FW_out (by decide) h.out | exact R_nil h.out
      | ((with_reducible apply W_condT); (case hb => exact rfl); (case hw => with_reducible rfl); (case h => exact h.out))
      | ((with_reducible apply W_condF); (case hb => exact rfl); (case hw => with_reducible rfl); (case h => exact h.out))
      | ((with_reducible apply D_admE); (case hop => exact rfl); (case ha => exact rfl); (case hna => exact rfl); (try case hl => exact tT); (case hg => exact gT); (case hy => exact rfl); (case ht => exact pT); (case hn => exact nT); (try case hc => exact rfl); (case h => exact h.out))
      | ((with_reducible apply D_adrE); (case ha => exact rfl); (case hna => exact rfl); (try case hl => exact tT); (case hg => exact gT); (case hs => simp (maxSteps := 2000000) (disch := omega) only [go_sem, zz1, zz2, zz3]; exact rfl); (case ht => exact pT); (case hn => exact nT); (try case hc => exact rfl); (case h => exact h.out))
      | ((with_reducible first | apply AO_mvE | apply V_mvE | apply D_mvE); (case hop => exact rfl); (case hg => exact gT); (try case hw => exact rfl); (try case hl => exact tT); (case hy => exact rfl); (case ht => exact pT); (case hn => exact nT); (try case hc => exact rfl); (case h => exact h.out))
      | ((with_reducible first | apply AO_stepE | apply V_stepE | apply D_stepE); (case hg => exact gT); (try case hw => exact rfl); (try case hl => exact tT); (case hs => simp (maxSteps := 2000000) (disch := omega) only [go_sem, zz1, zz2, zz3]; exact rfl); (case ht => exact pT); (case hn => exact nT); (try case hc => exact rfl); (case h => exact h.out))
      | ((with_reducible first | apply AO_skipE | apply V_skipE | apply D_skipE); (case hg => exact gF); (case ht => exact pT); (case hn => exact nT); (try case hc => exact rfl); (case h => exact h.out))
      | fail) : p := h ⟨hq⟩
theorem Z4 {p q : Prop} (hq : q) (h : Held q → p := by
    intro h
    first
      | with_reducible first | exact W_seq h.out | exact W_block h.out | exact W_skip h.out | exact N_code h.out | exact N_blk h.out | exact W_exit h.out | exact E_code h.out | exact E_blk_ne (by decide) h.out | exact W_ret h.out | exact R_code h.out | exact R_blk h.out | exact L_ret h.out | exact F_ret h.out | exact F_out (by decide) h.out | exact FW_ret h.out | exact FW_out (by decide) h.out | exact R_nil h.out
      | ((with_reducible apply W_condT); (case hb => exact rfl); (case hw => with_reducible rfl); (case h => exact h.out))
      | ((with_reducible apply W_condF); (case hb => exact rfl); (case hw => with_reducible rfl); (case h => exact h.out))
      | ((with_reducible apply D_admE); (case hop => exact rfl); (case ha => exact rfl); (case hna => exact rfl); (try case hl => exact tT); (case hg => exact gT); (case hy => exact rfl); (case ht => exact pT); (case hn => exact nT); (try case hc => exact rfl); (case h => exact h.out))
      | ((with_reducible apply D_adrE); (case ha => exact rfl); (case hna => exact rfl); (try case hl => exact tT); (case hg => exact gT); (case hs => simp (maxSteps := 2000000) (disch := omega) only [go_sem, zz1, zz2, zz3, zz4]; exact rfl); (case ht => exact pT); (case hn => exact nT); (try case hc => exact rfl); (case h => exact h.out))
      | ((with_reducible first | apply AO_mvE | apply V_mvE | apply D_mvE); (case hop => exact rfl); (case hg => exact gT); (try case hw => exact rfl); (try case hl => exact tT); (case hy => exact rfl); (case ht => exact pT); (case hn => exact nT); (try case hc => exact rfl); (case h => exact h.out))
      | ((with_reducible first | apply AO_stepE | apply V_stepE | apply D_stepE); (case hg => exact gT); (try case hw => exact rfl); (try case hl => exact tT); (case hs => simp (maxSteps := 2000000) (disch := omega) only [go_sem, zz1, zz2, zz3, zz4]; exact rfl); (case ht => exact pT); (case hn => exact nT); (try case hc => exact rfl); (case h => exact h.out))
      | ((with_reducible first | apply AO_skipE | apply V_skipE | apply D_skipE); (case hg => exact gF); (case ht => exact pT); (case hn => exact nT); (try case hc => exact rfl); (case h => exact h.out))
      | fail) : p := h ⟨hq⟩
theorem Z5 {p q : Prop} (hq : q) (h : Held q → p := by
    intro h
    first
      | with_reducible first | exact W_seq h.out | exact W_block h.out | exact W_skip h.out | exact N_code h.out | exact N_blk h.out | exact W_exit h.out | exact E_code h.out | exact E_blk_ne (by decide) h.out | exact W_ret h.out | exact R_code h.out | exact R_blk h.out | exact L_ret h.out | exact F_ret h.out | exact F_out (by decide) h.out | exact FW_ret h.out | exact FW_out (by decide) h.out | exact R_nil h.out
      | ((with_reducible apply W_condT); (case hb => exact rfl); (case hw => with_reducible rfl); (case h => exact h.out))
      | ((with_reducible apply W_condF); (case hb => exact rfl); (case hw => with_reducible rfl); (case h => exact h.out))
      | ((with_reducible apply D_admE); (case hop => exact rfl); (case ha => exact rfl); (case hna => exact rfl); (try case hl => exact tT); (case hg => exact gT); (case hy => exact rfl); (case ht => exact pT); (case hn => exact nT); (try case hc => exact rfl); (case h => exact h.out))
      | ((with_reducible apply D_adrE); (case ha => exact rfl); (case hna => exact rfl); (try case hl => exact tT); (case hg => exact gT); (case hs => simp (maxSteps := 2000000) (disch := omega) only [go_sem, zz1, zz2, zz3, zz4, zz5]; exact rfl); (case ht => exact pT); (case hn => exact nT); (try case hc => exact rfl); (case h => exact h.out))
      | ((with_reducible first | apply AO_mvE | apply V_mvE | apply D_mvE); (case hop => exact rfl); (case hg => exact gT); (try case hw => exact rfl); (try case hl => exact tT); (case hy => exact rfl); (case ht => exact pT); (case hn => exact nT); (try case hc => exact rfl); (case h => exact h.out))
      | ((with_reducible first | apply AO_stepE | apply V_stepE | apply D_stepE); (case hg => exact gT); (try case hw => exact rfl); (try case hl => exact tT); (case hs => simp (maxSteps := 2000000) (disch := omega) only [go_sem, zz1, zz2, zz3, zz4, zz5]; exact rfl); (case ht => exact pT); (case hn => exact nT); (try case hc => exact rfl); (case h => exact h.out))
      | ((with_reducible first | apply AO_skipE | apply V_skipE | apply D_skipE); (case hg => exact gF); (case ht => exact pT); (case hn => exact nT); (try case hc => exact rfl); (case h => exact h.out))
      | fail) : p := h ⟨hq⟩
theorem Z6 {p q : Prop} (hq : q) (h : Held q → p := by
    intro h
    first
      | with_reducible first | exact W_seq h.out | exact W_block h.out | exact W_skip h.out | exact N_code h.out | exact N_blk h.out | exact W_exit h.out | exact E_code h.out | exact E_blk_ne (by decide) h.out | exact W_ret h.out | exact R_code h.out | exact R_blk h.out | exact L_ret h.out | exact F_ret h.out | exact F_out (by decide) h.out | exact FW_ret h.out | exact FW_out (by decide) h.out | exact R_nil h.out
      | ((with_reducible apply W_condT); (case hb => exact rfl); (case hw => with_reducible rfl); (case h => exact h.out))
      | ((with_reducible apply W_condF); (case hb => exact rfl); (case hw => with_reducible rfl); (case h => exact h.out))
      | ((with_reducible apply D_admE); (case hop => exact rfl); (case ha => exact rfl); (case hna => exact rfl); (try case hl => exact tT); (case hg => exact gT); (case hy => exact rfl); (case ht => exact pT); (case hn => exact nT); (try case hc => exact rfl); (case h => exact h.out))
      | ((with_reducible apply D_adrE); (case ha => exact rfl); (case hna => exact rfl); (try case hl => exact tT); (case hg => exact gT); (case hs => simp (maxSteps := 2000000) (disch := omega) only [go_sem, zz1, zz2, zz3, zz4, zz5, zz6]; exact rfl); (case ht => exact pT); (case hn => exact nT); (try case hc => exact rfl); (case h => exact h.out))
      | ((with_reducible first | apply AO_mvE | apply V_mvE | apply D_mvE); (case hop => exact rfl); (case hg => exact gT); (try case hw => exact rfl); (try case hl => exact tT); (case hy => exact rfl); (case ht => exact pT); (case hn => exact nT); (try case hc => exact rfl); (case h => exact h.out))
      | ((with_reducible first | apply AO_stepE | apply V_stepE | apply D_stepE); (case hg => exact gT); (try case hw => exact rfl); (try case hl => exact tT); (case hs => simp (maxSteps := 2000000) (disch := omega) only [go_sem, zz1, zz2, zz3, zz4, zz5, zz6]; exact rfl); (case ht => exact pT); (case hn => exact nT); (try case hc => exact rfl); (case h => exact h.out))
      | ((with_reducible first | apply AO_skipE | apply V_skipE | apply D_skipE); (case hg => exact gF); (case ht => exact pT); (case hn => exact nT); (try case hc => exact rfl); (case h => exact h.out))
      | fail) : p := h ⟨hq⟩
theorem Z7 {p q : Prop} (hq : q) (h : Held q → p := by
    intro h
    first
      | with_reducible first | exact W_seq h.out | exact W_block h.out | exact W_skip h.out | exact N_code h.out | exact N_blk h.out | exact W_exit h.out | exact E_code h.out | exact E_blk_ne (by decide) h.out | exact W_ret h.out | exact R_code h.out | exact R_blk h.out | exact L_ret h.out | exact F_ret h.out | exact F_out (by decide) h.out | exact FW_ret h.out | exact FW_out (by decide) h.out | exact R_nil h.out
      | ((with_reducible apply W_condT); (case hb => exact rfl); (case hw => with_reducible rfl); (case h => exact h.out))
      | ((with_reducible apply W_condF); (case hb => exact rfl); (case hw => with_reducible rfl); (case h => exact h.out))
      | ((with_reducible apply D_admE); (case hop => exact rfl); (case ha => exact rfl); (case hna => exact rfl); (try case hl => exact tT); (case hg => exact gT); (case hy => exact rfl); (case ht => exact pT); (case hn => exact nT); (try case hc => exact rfl); (case h => exact h.out))
      | ((with_reducible apply D_adrE); (case ha => exact rfl); (case hna => exact rfl); (try case hl => exact tT); (case hg => exact gT); (case hs => simp (maxSteps := 2000000) (disch := omega) only [go_sem, zz1, zz2, zz3, zz4, zz5, zz6, zz7]; exact rfl); (case ht => exact pT); (case hn => exact nT); (try case hc => exact rfl); (case h => exact h.out))
      | ((with_reducible first | apply AO_mvE | apply V_mvE | apply D_mvE); (case hop => exact rfl); (case hg => exact gT); (try case hw => exact rfl); (try case hl => exact tT); (case hy => exact rfl); (case ht => exact pT); (case hn => exact nT); (try case hc => exact rfl); (case h => exact h.out))
      | ((with_reducible first | apply AO_stepE | apply V_stepE | apply D_stepE); (case hg => exact gT); (try case hw => exact rfl); (try case hl => exact tT); (case hs => simp (maxSteps := 2000000) (disch := omega) only [go_sem, zz1, zz2, zz3, zz4, zz5, zz6, zz7]; exact rfl); (case ht => exact pT); (case hn => exact nT); (try case hc => exact rfl); (case h => exact h.out))
      | ((with_reducible first | apply AO_skipE | apply V_skipE | apply D_skipE); (case hg => exact gF); (case ht => exact pT); (case hn => exact nT); (try case hc => exact rfl); (case h => exact h.out))
      | fail) : p := h ⟨hq⟩
theorem Z8 {p q : Prop} (hq : q) (h : Held q → p := by
    intro h
    first
      | with_reducible first | exact W_seq h.out | exact W_block h.out | exact W_skip h.out | exact N_code h.out | exact N_blk h.out | exact W_exit h.out | exact E_code h.out | exact E_blk_ne (by decide) h.out | exact W_ret h.out | exact R_code h.out | exact R_blk h.out | exact L_ret h.out | exact F_ret h.out | exact F_out (by decide) h.out | exact FW_ret h.out | exact FW_out (by decide) h.out | exact R_nil h.out
      | ((with_reducible apply W_condT); (case hb => exact rfl); (case hw => with_reducible rfl); (case h => exact h.out))
      | ((with_reducible apply W_condF); (case hb => exact rfl); (case hw => with_reducible rfl); (case h => exact h.out))
      | ((with_reducible apply D_admE); (case hop => exact rfl); (case ha => exact rfl); (case hna => exact rfl); (try case hl => exact tT); (case hg => exact gT); (case hy => exact rfl); (case ht => exact pT); (case hn => exact nT); (try case hc => exact rfl); (case h => exact h.out))
      | ((with_reducible apply D_adrE); (case ha => exact rfl); (case hna => exact rfl); (try case hl => exact tT); (case hg => exact gT); (case hs => simp (maxSteps := 2000000) (disch := omega) only [go_sem, zz1, zz2, zz3, zz4, zz5, zz6, zz7, zz8]; exact rfl); (case ht => exact pT); (case hn => exact nT); (try case hc => exact rfl); (case h => exact h.out))
      | ((with_reducible first | apply AO_mvE | apply V_mvE | apply D_mvE); (case hop => exact rfl); (case hg => exact gT); (try case hw => exact rfl); (try case hl => exact tT); (case hy => exact rfl); (case ht => exact pT); (case hn => exact nT); (try case hc => exact rfl); (case h => exact h.out))
      | ((with_reducible first | apply AO_stepE | apply V_stepE | apply D_stepE); (case hg => exact gT); (try case hw => exact rfl); (try case hl => exact tT); (case hs => simp (maxSteps := 2000000) (disch := omega) only [go_sem, zz1, zz2, zz3, zz4, zz5, zz6, zz7, zz8]; exact rfl); (case ht => exact pT); (case hn => exact nT); (try case hc => exact rfl); (case h => exact h.out))
      | ((with_reducible first | apply AO_skipE | apply V_skipE | apply D_skipE); (case hg => exact gF); (case ht => exact pT); (case hn => exact nT); (try case hc => exact rfl); (case h => exact h.out))
      | fail) : p := h ⟨hq⟩
theorem Z9 {p q : Prop} (hq : q) (h : Held q → p := by
    intro h
    first
      | with_reducible first | exact W_seq h.out | exact W_block h.out | exact W_skip h.out | exact N_code h.out | exact N_blk h.out | exact W_exit h.out | exact E_code h.out | exact E_blk_ne (by decide) h.out | exact W_ret h.out | exact R_code h.out | exact R_blk h.out | exact L_ret h.out | exact F_ret h.out | exact F_out (by decide) h.out | exact FW_ret h.out | exact FW_out (by decide) h.out | exact R_nil h.out
      | ((with_reducible apply W_condT); (case hb => exact rfl); (case hw => with_reducible rfl); (case h => exact h.out))
      | ((with_reducible apply W_condF); (case hb => exact rfl); (case hw => with_reducible rfl); (case h => exact h.out))
      | ((with_reducible apply D_admE); (case hop => exact rfl); (case ha => exact rfl); (case hna => exact rfl); (try case hl => exact tT); (case hg => exact gT); (case hy => exact rfl); (case ht => exact pT); (case hn => exact nT); (try case hc => exact rfl); (case h => exact h.out))
      | ((with_reducible apply D_adrE); (case ha => exact rfl); (case hna => exact rfl); (try case hl => exact tT); (case hg => exact gT); (case hs => simp (maxSteps := 2000000) (disch := omega) only [go_sem, zz1, zz2, zz3, zz4, zz5, zz6, zz7, zz8, zz9]; exact rfl); (case ht => exact pT); (case hn => exact nT); (try case hc => exact rfl); (case h => exact h.out))
      | ((with_reducible first | apply AO_mvE | apply V_mvE | apply D_mvE); (case hop => exact rfl); (case hg => exact gT); (try case hw => exact rfl); (try case hl => exact tT); (case hy => exact rfl); (case ht => exact pT); (case hn => exact nT); (try case hc => exact rfl); (case h => exact h.out))
      | ((with_reducible first | apply AO_stepE | apply V_stepE | apply D_stepE); (case hg => exact gT); (try case hw => exact rfl); (try case hl => exact tT); (case hs => simp (maxSteps := 2000000) (disch := omega) only [go_sem, zz1, zz2, zz3, zz4, zz5, zz6, zz7, zz8, zz9]; exact rfl); (case ht => exact pT); (case hn => exact nT); (try case hc => exact rfl); (case h => exact h.out))
      | ((with_reducible first | apply AO_skipE | apply V_skipE | apply D_skipE); (case hg => exact gF); (case ht => exact pT); (case hn => exact nT); (try case hc => exact rfl); (case h => exact h.out))
      | fail) : p := h ⟨hq⟩
theorem Z10 {p q : Prop} (hq : q) (h : Held q → p := by
    intro h
    first
      | with_reducible first | exact W_seq h.out | exact W_block h.out | exact W_skip h.out | exact N_code h.out | exact N_blk h.out | exact W_exit h.out | exact E_code h.out | exact E_blk_ne (by decide) h.out | exact W_ret h.out | exact R_code h.out | exact R_blk h.out | exact L_ret h.out | exact F_ret h.out | exact F_out (by decide) h.out | exact FW_ret h.out | exact FW_out (by decide) h.out | exact R_nil h.out
      | ((with_reducible apply W_condT); (case hb => exact rfl); (case hw => with_reducible rfl); (case h => exact h.out))
      | ((with_reducible apply W_condF); (case hb => exact rfl); (case hw => with_reducible rfl); (case h => exact h.out))
      | ((with_reducible apply D_admE); (case hop => exact rfl); (case ha => exact rfl); (case hna => exact rfl); (try case hl => exact tT); (case hg => exact gT); (case hy => exact rfl); (case ht => exact pT); (case hn => exact nT); (try case hc => exact rfl); (case h => exact h.out))
      | ((with_reducible apply D_adrE); (case ha => exact rfl); (case hna => exact rfl); (try case hl => exact tT); (case hg => exact gT); (case hs => simp (maxSteps := 2000000) (disch := omega) only [go_sem, zz1, zz2, zz3, zz4, zz5, zz6, zz7, zz8, zz9, zz10]; exact rfl); (case ht => exact pT); (case hn => exact nT); (try case hc => exact rfl); (case h => exact h.out))
      | ((with_reducible first | apply AO_mvE | apply V_mvE | apply D_mvE); (case hop => exact rfl); (case hg => exact gT); (try case hw => exact rfl); (try case hl => exact tT); (case hy => exact rfl); (case ht => exact pT); (case hn => exact nT); (try case hc => exact rfl); (case h => exact h.out))
      | ((with_reducible first | apply AO_stepE | apply V_stepE | apply D_stepE); (case hg => exact gT); (try case hw => exact rfl); (try case hl => exact tT); (case hs => simp (maxSteps := 2000000) (disch := omega) only [go_sem, zz1, zz2, zz3, zz4, zz5, zz6, zz7, zz8, zz9, zz10]; exact rfl); (case ht => exact pT); (case hn => exact nT); (try case hc => exact rfl); (case h => exact h.out))
      | ((with_reducible first | apply AO_skipE | apply V_skipE | apply D_skipE); (case hg => exact gF); (case ht => exact pT); (case hn => exact nT); (try case hc => exact rfl); (case h => exact h.out))
      | fail) : p := h ⟨hq⟩
theorem Z11 {p q : Prop} (hq : q) (h : Held q → p := by
    intro h
    first
      | with_reducible first | exact W_seq h.out | exact W_block h.out | exact W_skip h.out | exact N_code h.out | exact N_blk h.out | exact W_exit h.out | exact E_code h.out | exact E_blk_ne (by decide) h.out | exact W_ret h.out | exact R_code h.out | exact R_blk h.out | exact L_ret h.out | exact F_ret h.out | exact F_out (by decide) h.out | exact FW_ret h.out | exact FW_out (by decide) h.out | exact R_nil h.out
      | ((with_reducible apply W_condT); (case hb => exact rfl); (case hw => with_reducible rfl); (case h => exact h.out))
      | ((with_reducible apply W_condF); (case hb => exact rfl); (case hw => with_reducible rfl); (case h => exact h.out))
      | ((with_reducible apply D_admE); (case hop => exact rfl); (case ha => exact rfl); (case hna => exact rfl); (try case hl => exact tT); (case hg => exact gT); (case hy => exact rfl); (case ht => exact pT); (case hn => exact nT); (try case hc => exact rfl); (case h => exact h.out))
      | ((with_reducible apply D_adrE); (case ha => exact rfl); (case hna => exact rfl); (try case hl => exact tT); (case hg => exact gT); (case hs => simp (maxSteps := 2000000) (disch := omega) only [go_sem, zz1, zz2, zz3, zz4, zz5, zz6, zz7, zz8, zz9, zz10, zz11]; exact rfl); (case ht => exact pT); (case hn => exact nT); (try case hc => exact rfl); (case h => exact h.out))
      | ((with_reducible first | apply AO_mvE | apply V_mvE | apply D_mvE); (case hop => exact rfl); (case hg => exact gT); (try case hw => exact rfl); (try case hl => exact tT); (case hy => exact rfl); (case ht => exact pT); (case hn => exact nT); (try case hc => exact rfl); (case h => exact h.out))
      | ((with_reducible first | apply AO_stepE | apply V_stepE | apply D_stepE); (case hg => exact gT); (try case hw => exact rfl); (try case hl => exact tT); (case hs => simp (maxSteps := 2000000) (disch := omega) only [go_sem, zz1, zz2, zz3, zz4, zz5, zz6, zz7, zz8, zz9, zz10, zz11]; exact rfl); (case ht => exact pT); (case hn => exact nT); (try case hc => exact rfl); (case h => exact h.out))
      | ((with_reducible first | apply AO_skipE | apply V_skipE | apply D_skipE); (case hg => exact gF); (case ht => exact pT); (case hn => exact nT); (try case hc => exact rfl); (case h => exact h.out))
      | fail) : p := h ⟨hq⟩
theorem Z12 {p q : Prop} (hq : q) (h : Held q → p := by
    intro h
    first
      | with_reducible first | exact W_seq h.out | exact W_block h.out | exact W_skip h.out | exact N_code h.out | exact N_blk h.out | exact W_exit h.out | exact E_code h.out | exact E_blk_ne (by decide) h.out | exact W_ret h.out | exact R_code h.out | exact R_blk h.out | exact L_ret h.out | exact F_ret h.out | exact F_out (by decide) h.out | exact FW_ret h.out | exact FW_out (by decide) h.out | exact R_nil h.out
      | ((with_reducible apply W_condT); (case hb => exact rfl); (case hw => with_reducible rfl); (case h => exact h.out))
      | ((with_reducible apply W_condF); (case hb => exact rfl); (case hw => with_reducible rfl); (case h => exact h.out))
      | ((with_reducible apply D_admE); (case hop => exact rfl); (case ha => exact rfl); (case hna => exact rfl); (try case hl => exact tT); (case hg => exact gT); (case hy => exact rfl); (case ht => exact pT); (case hn => exact nT); (try case hc => exact rfl); (case h => exact h.out))
      | ((with_reducible apply D_adrE); (case ha => exact rfl); (case hna => exact rfl); (try case hl => exact tT); (case hg => exact gT); (case hs => simp (maxSteps := 2000000) (disch := omega) only [go_sem, zz1, zz2, zz3, zz4, zz5, zz6, zz7, zz8, zz9, zz10, zz11, zz12]; exact rfl); (case ht => exact pT); (case hn => exact nT); (try case hc => exact rfl); (case h => exact h.out))
      | ((with_reducible first | apply AO_mvE | apply V_mvE | apply D_mvE); (case hop => exact rfl); (case hg => exact gT); (try case hw => exact rfl); (try case hl => exact tT); (case hy => exact rfl); (case ht => exact pT); (case hn => exact nT); (try case hc => exact rfl); (case h => exact h.out))
      | ((with_reducible first | apply AO_stepE | apply V_stepE | apply D_stepE); (case hg => exact gT); (try case hw => exact rfl); (try case hl => exact tT); (case hs => simp (maxSteps := 2000000) (disch := omega) only [go_sem, zz1, zz2, zz3, zz4, zz5, zz6, zz7, zz8, zz9, zz10, zz11, zz12]; exact rfl); (case ht => exact pT); (case hn => exact nT); (try case hc => exact rfl); (case h => exact h.out))
      | ((with_reducible first | apply AO_skipE | apply V_skipE | apply D_skipE); (case hg => exact gF); (case ht => exact pT); (case hn => exact nT); (try case hc => exact rfl); (case h => exact h.out))
      | fail) : p := h ⟨hq⟩
theorem Z13 {p q : Prop} (hq : q) (h : Held q → p := by
    intro h
    first
      | with_reducible first | exact W_seq h.out | exact W_block h.out | exact W_skip h.out | exact N_code h.out | exact N_blk h.out | exact W_exit h.out | exact E_code h.out | exact E_blk_ne (by decide) h.out | exact W_ret h.out | exact R_code h.out | exact R_blk h.out | exact L_ret h.out | exact F_ret h.out | exact F_out (by decide) h.out | exact FW_ret h.out | exact FW_out (by decide) h.out | exact R_nil h.out
      | ((with_reducible apply W_condT); (case hb => exact rfl); (case hw => with_reducible rfl); (case h => exact h.out))
      | ((with_reducible apply W_condF); (case hb => exact rfl); (case hw => with_reducible rfl); (case h => exact h.out))
      | ((with_reducible apply D_admE); (case hop => exact rfl); (case ha => exact rfl); (case hna => exact rfl); (try case hl => exact tT); (case hg => exact gT); (case hy => exact rfl); (case ht => exact pT); (case hn => exact nT); (try case hc => exact rfl); (case h => exact h.out))
      | ((with_reducible apply D_adrE); (case ha => exact rfl); (case hna => exact rfl); (try case hl => exact tT); (case hg => exact gT); (case hs => simp (maxSteps := 2000000) (disch := omega) only [go_sem, zz1, zz2, zz3, zz4, zz5, zz6, zz7, zz8, zz9, zz10, zz11, zz12, zz13]; exact rfl); (case ht => exact pT); (case hn => exact nT); (try case hc => exact rfl); (case h => exact h.out))
      | ((with_reducible first | apply AO_mvE | apply V_mvE | apply D_mvE); (case hop => exact rfl); (case hg => exact gT); (try case hw => exact rfl); (try case hl => exact tT); (case hy => exact rfl); (case ht => exact pT); (case hn => exact nT); (try case hc => exact rfl); (case h => exact h.out))
      | ((with_reducible first | apply AO_stepE | apply V_stepE | apply D_stepE); (case hg => exact gT); (try case hw => exact rfl); (try case hl => exact tT); (case hs => simp (maxSteps := 2000000) (disch := omega) only [go_sem, zz1, zz2, zz3, zz4, zz5, zz6, zz7, zz8, zz9, zz10, zz11, zz12, zz13]; exact rfl); (case ht => exact pT); (case hn => exact nT); (try case hc => exact rfl); (case h => exact h.out))
      | ((with_reducible first | apply AO_skipE | apply V_skipE | apply D_skipE); (case hg => exact gF); (case ht => exact pT); (case hn => exact nT); (try case hc => exact rfl); (case h => exact h.out))
      | fail) : p := h ⟨hq⟩
theorem Z14 {p q : Prop} (hq : q) (h : Held q → p := by
    intro h
    first
      | with_reducible first | exact W_seq h.out | exact W_block h.out | exact W_skip h.out | exact N_code h.out | exact N_blk h.out | exact W_exit h.out | exact E_code h.out | exact E_blk_ne (by decide) h.out | exact W_ret h.out | exact R_code h.out | exact R_blk h.out | exact L_ret h.out | exact F_ret h.out | exact F_out (by decide) h.out | exact FW_ret h.out | exact FW_out (by decide) h.out | exact R_nil h.out
      | ((with_reducible apply W_condT); (case hb => exact rfl); (case hw => with_reducible rfl); (case h => exact h.out))
      | ((with_reducible apply W_condF); (case hb => exact rfl); (case hw => with_reducible rfl); (case h => exact h.out))
      | ((with_reducible apply D_admE); (case hop => exact rfl); (case ha => exact rfl); (case hna => exact rfl); (try case hl => exact tT); (case hg => exact gT); (case hy => exact rfl); (case ht => exact pT); (case hn => exact nT); (try case hc => exact rfl); (case h => exact h.out))
      | ((with_reducible apply D_adrE); (case ha => exact rfl); (case hna => exact rfl); (try case hl => exact tT); (case hg => exact gT); (case hs => simp (maxSteps := 2000000) (disch := omega) only [go_sem, zz1, zz2, zz3, zz4, zz5, zz6, zz7, zz8, zz9, zz10, zz11, zz12, zz13, zz14]; exact rfl); (case ht => exact pT); (case hn => exact nT); (try case hc => exact rfl); (case h => exact h.out))
      | ((with_reducible first | apply AO_mvE | apply V_mvE | apply D_mvE); (case hop => exact rfl); (case hg => exact gT); (try case hw => exact rfl); (try case hl => exact tT); (case hy => exact rfl); (case ht => exact pT); (case hn => exact nT); (try case hc => exact rfl); (case h => exact h.out))
      | ((with_reducible first | apply AO_stepE | apply V_stepE | apply D_stepE); (case hg => exact gT); (try case hw => exact rfl); (try case hl => exact tT); (case hs => simp (maxSteps := 2000000) (disch := omega) only [go_sem, zz1, zz2, zz3, zz4, zz5, zz6, zz7, zz8, zz9, zz10, zz11, zz12, zz13, zz14]; exact rfl); (case ht => exact pT); (case hn => exact nT); (try case hc => exact rfl); (case h => exact h.out))
      | ((with_reducible first | apply AO_skipE | apply V_skipE | apply D_skipE); (case hg => exact gF); (case ht => exact pT); (case hn => exact nT); (try case hc => exact rfl); (case h => exact h.out))
      | fail) : p := h ⟨hq⟩
theorem Z15 {p q : Prop} (hq : q) (h : Held q → p := by
    intro h
    first
      | with_reducible first | exact W_seq h.out | exact W_block h.out | exact W_skip h.out | exact N_code h.out | exact N_blk h.out | exact W_exit h.out | exact E_code h.out | exact E_blk_ne (by decide) h.out | exact W_ret h.out | exact R_code h.out | exact R_blk h.out | exact L_ret h.out | exact F_ret h.out | exact F_out (by decide) h.out | exact FW_ret h.out | exact FW_out (by decide) h.out | exact R_nil h.out
      | ((with_reducible apply W_condT); (case hb => exact rfl); (case hw => with_reducible rfl); (case h => exact h.out))
      | ((with_reducible apply W_condF); (case hb => exact rfl); (case hw => with_reducible rfl); (case h => exact h.out))
      | ((with_reducible apply D_admE); (case hop => exact rfl); (case ha => exact rfl); (case hna => exact rfl); (try case hl => exact tT); (case hg => exact gT); (case hy => exact rfl); (case ht => exact pT); (case hn => exact nT); (try case hc => exact rfl); (case h => exact h.out))
      | ((with_reducible apply D_adrE); (case ha => exact rfl); (case hna => exact rfl); (try case hl => exact tT); (case hg => exact gT); (case hs => simp (maxSteps := 2000000) (disch := omega) only [go_sem, zz1, zz2, zz3, zz4, zz5, zz6, zz7, zz8, zz9, zz10, zz11, zz12, zz13, zz14, zz15]; exact rfl); (case ht => exact pT); (case hn => exact nT); (try case hc => exact rfl); (case h => exact h.out))
      | ((with_reducible first | apply AO_mvE | apply V_mvE | apply D_mvE); (case hop => exact rfl); (case hg => exact gT); (try case hw => exact rfl); (try case hl => exact tT); (case hy => exact rfl); (case ht => exact pT); (case hn => exact nT); (try case hc => exact rfl); (case h => exact h.out))
      | ((with_reducible first | apply AO_stepE | apply V_stepE | apply D_stepE); (case hg => exact gT); (try case hw => exact rfl); (try case hl => exact tT); (case hs => simp (maxSteps := 2000000) (disch := omega) only [go_sem, zz1, zz2, zz3, zz4, zz5, zz6, zz7, zz8, zz9, zz10, zz11, zz12, zz13, zz14, zz15]; exact rfl); (case ht => exact pT); (case hn => exact nT); (try case hc => exact rfl); (case h => exact h.out))
      | ((with_reducible first | apply AO_skipE | apply V_skipE | apply D_skipE); (case hg => exact gF); (case ht => exact pT); (case hn => exact nT); (try case hc => exact rfl); (case h => exact h.out))
      | fail) : p := h ⟨hq⟩
theorem Z16 {p q : Prop} (hq : q) (h : Held q → p := by
    intro h
    first
      | with_reducible first | exact W_seq h.out | exact W_block h.out | exact W_skip h.out | exact N_code h.out | exact N_blk h.out | exact W_exit h.out | exact E_code h.out | exact E_blk_ne (by decide) h.out | exact W_ret h.out | exact R_code h.out | exact R_blk h.out | exact L_ret h.out | exact F_ret h.out | exact F_out (by decide) h.out | exact FW_ret h.out | exact FW_out (by decide) h.out | exact R_nil h.out
      | ((with_reducible apply W_condT); (case hb => exact rfl); (case hw => with_reducible rfl); (case h => exact h.out))
      | ((with_reducible apply W_condF); (case hb => exact rfl); (case hw => with_reducible rfl); (case h => exact h.out))
      | ((with_reducible apply D_admE); (case hop => exact rfl); (case ha => exact rfl); (case hna => exact rfl); (try case hl => exact tT); (case hg => exact gT); (case hy => exact rfl); (case ht => exact pT); (case hn => exact nT); (try case hc => exact rfl); (case h => exact h.out))
      | ((with_reducible apply D_adrE); (case ha => exact rfl); (case hna => exact rfl); (try case hl => exact tT); (case hg => exact gT); (case hs => simp (maxSteps := 2000000) (disch := omega) only [go_sem, zz1, zz2, zz3, zz4, zz5, zz6, zz7, zz8, zz9, zz10, zz11, zz12, zz13, zz14, zz15, zz16]; exact rfl); (case ht => exact pT); (case hn => exact nT); (try case hc => exact rfl); (case h => exact h.out))
      | ((with_reducible first | apply AO_mvE | apply V_mvE | apply D_mvE); (case hop => exact rfl); (case hg => exact gT); (try case hw => exact rfl); (try case hl => exact tT); (case hy => exact rfl); (case ht => exact pT); (case hn => exact nT); (try case hc => exact rfl); (case h => exact h.out))
      | ((with_reducible first | apply AO_stepE | apply V_stepE | apply D_stepE); (case hg => exact gT); (try case hw => exact rfl); (try case hl => exact tT); (case hs => simp (maxSteps := 2000000) (disch := omega) only [go_sem, zz1, zz2, zz3, zz4, zz5, zz6, zz7, zz8, zz9, zz10, zz11, zz12, zz13, zz14, zz15, zz16]; exact rfl); (case ht => exact pT); (case hn => exact nT); (try case hc => exact rfl); (case h => exact h.out))
      | ((with_reducible first | apply AO_skipE | apply V_skipE | apply D_skipE); (case hg => exact gF); (case ht => exact pT); (case hn => exact nT); (try case hc => exact rfl); (case h => exact h.out))
      | fail) : p := h ⟨hq⟩
theorem Z17 {p q : Prop} (hq : q) (h : Held q → p := by
    intro h
    first
      | with_reducible first | exact W_seq h.out | exact W_block h.out | exact W_skip h.out | exact N_code h.out | exact N_blk h.out | exact W_exit h.out | exact E_code h.out | exact E_blk_ne (by decide) h.out | exact W_ret h.out | exact R_code h.out | exact R_blk h.out | exact L_ret h.out | exact F_ret h.out | exact F_out (by decide) h.out | exact FW_ret h.out | exact FW_out (by decide) h.out | exact R_nil h.out
      | ((with_reducible apply W_condT); (case hb => exact rfl); (case hw => with_reducible rfl); (case h => exact h.out))
      | ((with_reducible apply W_condF); (case hb => exact rfl); (case hw => with_reducible rfl); (case h => exact h.out))
      | ((with_reducible apply D_admE); (case hop => exact rfl); (case ha => exact rfl); (case hna => exact rfl); (try case hl => exact tT); (case hg => exact gT); (case hy => exact rfl); (case ht => exact pT); (case hn => exact nT); (try case hc => exact rfl); (case h => exact h.out))
      | ((with_reducible apply D_adrE); (case ha => exact rfl); (case hna => exact rfl); (try case hl => exact tT); (case hg => exact gT); (case hs => simp (maxSteps := 2000000) (disch := omega) only [go_sem, zz1, zz2, zz3, zz4, zz5, zz6, zz7, zz8, zz9, zz10, zz11, zz12, zz13, zz14, zz15, zz16, zz17]; exact rfl); (case ht => exact pT); (case hn => exact nT); (try case hc => exact rfl); (case h => exact h.out))
      | ((with_reducible first | apply AO_mvE | apply V_mvE | apply D_mvE); (case hop => exact rfl); (case hg => exact gT); (try case hw => exact rfl); (try case hl => exact tT); (case hy => exact rfl); (case ht => exact pT); (case hn => exact nT); (try case hc => exact rfl); (case h => exact h.out))
      | ((with_reducible first | apply AO_stepE | apply V_stepE | apply D_stepE); (case hg => exact gT); (try case hw => exact rfl); (try case hl => exact tT); (case hs => simp (maxSteps := 2000000) (disch := omega) only [go_sem, zz1, zz2, zz3, zz4, zz5, zz6, zz7, zz8, zz9, zz10, zz11, zz12, zz13, zz14, zz15, zz16, zz17]; exact rfl); (case ht => exact pT); (case hn => exact nT); (try case hc => exact rfl); (case h => exact h.out))
      | ((with_reducible first | apply AO_skipE | apply V_skipE | apply D_skipE); (case hg => exact gF); (case ht => exact pT); (case hn => exact nT); (try case hc => exact rfl); (case h => exact h.out))
      | fail) : p := h ⟨hq⟩
theorem Z18 {p q : Prop} (hq : q) (h : Held q → p := by
    intro h
    first
      | with_reducible first | exact W_seq h.out | exact W_block h.out | exact W_skip h.out | exact N_code h.out | exact N_blk h.out | exact W_exit h.out | exact E_code h.out | exact E_blk_ne (by decide) h.out | exact W_ret h.out | exact R_code h.out | exact R_blk h.out | exact L_ret h.out | exact F_ret h.out | exact F_out (by decide) h.out | exact FW_ret h.out | exact FW_out (by decide) h.out | exact R_nil h.out
      | ((with_reducible apply W_condT); (case hb => exact rfl); (case hw => with_reducible rfl); (case h => exact h.out))
      | ((with_reducible apply W_condF); (case hb => exact rfl); (case hw => with_reducible rfl); (case h => exact h.out))
      | ((with_reducible apply D_admE); (case hop => exact rfl); (case ha => exact rfl); (case hna => exact rfl); (try case hl => exact tT); (case hg => exact gT); (case hy => exact rfl); (case ht => exact pT); (case hn => exact nT); (try case hc => exact rfl); (case h => exact h.out))
      | ((with_reducible apply D_adrE); (case ha => exact rfl); (case hna => exact rfl); (try case hl => exact tT); (case hg => exact gT); (case hs => simp (maxSteps := 2000000) (disch := omega) only [go_sem, zz1, zz2, zz3, zz4, zz5, zz6, zz7, zz8, zz9, zz10, zz11, zz12, zz13, zz14, zz15, zz16, zz17, zz18]; exact rfl); (case ht => exact pT); (case hn => exact nT); (try case hc => exact rfl); (case h => exact h.out))
      | ((with_reducible first | apply AO_mvE | apply V_mvE | apply D_mvE); (case hop => exact rfl); (case hg => exact gT); (try case hw => exact rfl); (try case hl => exact tT); (case hy => exact rfl); (case ht => exact pT); (case hn => exact nT); (try case hc => exact rfl); (case h => exact h.out))
      | ((with_reducible first | apply AO_stepE | apply V_stepE | apply D_stepE); (case hg => exact gT); (try case hw => exact rfl); (try case hl => exact tT); (case hs => simp (maxSteps := 2000000) (disch := omega) only [go_sem, zz1, zz2, zz3, zz4, zz5, zz6, zz7, zz8, zz9, zz10, zz11, zz12, zz13, zz14, zz15, zz16, zz17, zz18]; exact rfl); (case ht => exact pT); (case hn => exact nT); (try case hc => exact rfl); (case h => exact h.out))
      | ((with_reducible first | apply AO_skipE | apply V_skipE | apply D_skipE); (case hg => exact gF); (case ht => exact pT); (case hn => exact nT); (try case hc => exact rfl); (case h => exact h.out))
      | fail) : p := h ⟨hq⟩
theorem Zx {p q : Prop} (hq : q) (h : Held q → p := by
    intro h
    first
      | with_reducible first | exact E_blk h.out | exact L_exit h.out
      | fail) : p := h ⟨hq⟩
theorem Zlit {p q : Prop} (hq : q) (h : Held q → p := by
    intro h
    first
      | ((with_reducible apply D_litE); (case hop => exact rfl); (case hg => exact gT); (case hst => first | rfl | (simp only [go_sem]; rfl)); (case hs => simp (maxSteps := 2000000) (disch := omega) only [go_sem]; exact rfl); (case hr => exact rfl); (case hn' => exact rfl); (case hz => exact .sl _ _ (by simp [Fz.int_iff, Fz.bool_iff, Fz.str_iff, Fz.agg_iff])); (case ht => exact pT); (case hn => exact nT); (case htc => exact rfl); (case h => exact h.out))
      | fail) : p := h ⟨hq⟩
theorem Ze {p q : Prop} (hq : q) (h : Held q → p := by
    intro h
    first
      | (with_reducible exact AO_nil (hK _ h.out))
      | ((with_reducible first | apply V_end | apply D_end); (case hi => exact rfl); (try case hind => kernel_rfl); (case hn => exact nT); with_reducible exact hK _ h.out)
      | fail) : p := h ⟨hq⟩
theorem Zc {p q : Prop} {A : Prop} (c : A) (hq : q) (h : A → Held q → p := by
    intro c h
    first
      | ((with_reducible first | apply AO_callE | apply V_callE | apply D_callE); (case hg => exact gT); (case ho => exact rfl); (case ht => exact rfl); (case hp' => exact c); (case htm => exact pT); (case hn => exact nT); (try case hc => exact rfl); (case h => exact h.out))
      | fail) : p := h c ⟨hq⟩
theorem Zu {p q : Prop} {A : Prop} (c : A) (hq : q) (h : A → Held q → p := by
    intro c h
    first
      | ((with_reducible first | apply AO_callUE | apply V_callUE | apply D_callUE); (case hg => exact gT); (case ho => exact rfl); (case ht => exact rfl); (case hc => exact c); (case hf => exact frT); (case htm => exact pT); (case hn => exact nT); (try case htc => exact rfl); (case h => exact h.out))
      | fail) : p := h c ⟨hq⟩
theorem Zn {p q : Prop} {A : Prop} (c : A) (hq : q) (h : A → Held q → p := by
    intro c h
    first
      | ((with_reducible apply AO_callNE); (case hg => exact gT); (case ho => exact rfl); (case ht => exact rfl); (case hc => exact c); (case hf => exact frT); (case hfl => first | exact .int _ _ | exact .bool _ | exact .str _ | exact Flat.two (.int _ _) (.bool _)); (case htm => exact pT); (case hn => exact nT); (case h => exact h.out))
      | fail) : p := h c ⟨hq⟩
theorem Zg {p q : Prop} {A : Prop} (c : A) (hq : q) (h : A → Held q → p := by
    intro c h
    first
      | ((with_reducible apply AO_callGE (hp' := [])); (case hg => exact gT); (case ho => exact rfl); (case ht => exact rfl); (case hc => exact c); (case hh => exact fun id ob => no_lk id ob _); (case hf => exact frT); (case htm => exact pT); (case hn => exact nT); (case h => exact h.out))
      | fail) : p := h c ⟨hq⟩
theorem Zw {p q : Prop} {A : Prop} (c : A) (hq : q) (h : A → Held q → p := by
    intro c h
    first
      | ((with_reducible first | apply AO_newE | apply D_newE); (case hg => exact gT); (case ho => exact rfl); (case ht => exact rfl); (case hc => exact c); (case hf => exact frT); (try case hid => exact nT); (case hy => first | (simp only [List.map_cons, List.map_nil]; exact rfl) | exact rfl); (case htm => exact pT); (case hn => exact nT); (try case htc => exact rfl); (case h => exact h.out))
      | fail) : p := h c ⟨hq⟩
theorem Zd {p q : Prop} {A : Prop} (c : A) (hq : q) (h : A → Held q → p := by
    intro c h
    first
      | ((with_reducible apply AO_hcallD); (case hg => exact gT); (case ho => exact rfl); (case ht => exact rfl); (case hc => exact c); (case hy => exact rfl); (case hh => exact rfl); (case hn => first | (simp only [Nat.reduceAdd]; exact rfl) | exact rfl); (case htm => exact pT); (case h => exact h.out))
      | fail) : p := h c ⟨hq⟩
theorem Zh {p q : Prop} {A : Prop} (c : A) (hq : q) (h : A → Held q → p := by
    intro c h
    first
      | ((with_reducible apply AO_hcallE); (case hg => exact gT); (case ho => exact rfl); (case ht => exact rfl); (case hc => exact c); (case htm => exact pT); (case h => exact h.out))
      | fail) : p := h c ⟨hq⟩
theorem Zl {p : Prop} {q : Bool → Prop} {r : Bool → Prop} (hq : ∀ bn, r bn → q bn) (h : Held (∀ bn, r bn → q bn) → p := by
    intro h
    first
      | ((with_reducible apply AO_nilE); (case hg => exact gT); (case ho => exact rfl); (case ht => simp only [go_sem]; exact rfl); (case hx => exact rfl); (case hn => exact nT); exact h.out)
      | fail) : p := h ⟨hq⟩
theorem Zb {p q r : Prop} (hq : q) (hr : r) (h : Held q → Held r → p := by
    intro h1 h2
    first
      | ((with_reducible apply W_condE); (case hb => exact rfl); (case e1 => exact sT); (case e2 => exact sT); (case h1 => exact h1.out); (case h2 => exact h2.out))
      | ((fail_if_success ((with_reducible first | apply AO_stepE | apply V_stepE | apply D_stepE); (case hg => exact gT))); (fail_if_success ((with_reducible first | apply AO_skipE | apply V_skipE | apply D_skipE); (case hg => exact gF))); (with_reducible first | apply AO_split | apply V_split | apply D_split); (case hg => exact rfl); (case hd => exact rfl); (case hb => exact rfl); (case e1 => exact sT); (case e2 => exact sT); (case h1 => exact h1.out); (case h2 => exact h2.out))
      | fail) : p := h ⟨hq⟩ ⟨hr⟩
theorem Zr {p : Prop} (h : p := by
    first
      | ((with_reducible apply retQ_frz); (case h => simp (disch := omega) only [go_sem]; exact rfl); (case hq => exact rfl); (case hz => simp [nm_nilp, nm_nilFunc, nm_nilIface, Fz.int_iff, Fz.bool_iff, Fz.agg_iff, Fz.str_iff, rws_fz_iff, ri_fz_iff, Fz.tuple_iff, enc_fz_iff, enc_mem_iff, Fz.fp_iff, Fz.func_iff]); (case hf => repeat' first | exact .refl _ | (refine .tupleC ?_) | (refine .cons ?_ ?_) | exact .nil | exact .slR (.refl _) | exact .refE trivial (by simp only [go_sem]; exact rfl) (by first | rfl | (simp; done) | (simp [rws, Enc.enc]; done) | fail) (by first | rfl | (simp [rws_length]; done) | (simp [rws_length]; omega) | fail) | exact .refF trivial (by simp only [go_sem]; exact rfl) (by first | assumption | fail) (by first | rfl | (simp [rws_length]; done) | (simp [rws_length]; omega) | fail) | exact .refP trivial (by simp only [go_sem]; exact rfl) (by first | rfl | assumption | (simp [rws_length]; omega)) (by omega) (by first | assumption | (simp only [List.drop_zero]; assumption)) | (refine .aggC ?_)))
      | fail) : p := h
theorem Zrn {p : Prop} (h : p := by
    first
      | (refine N_nil ?_; (with_reducible apply retN_frz); (case h => simp (disch := omega) only [go_sem]; exact rfl); (case hq => exact rfl); (case hz => simp [nm_nilp, nm_nilFunc, nm_nilIface, Fz.int_iff, Fz.bool_iff, Fz.agg_iff, Fz.str_iff, rws_fz_iff, ri_fz_iff, Fz.tuple_iff, enc_fz_iff, enc_mem_iff, Fz.fp_iff, Fz.func_iff]); (case hf => repeat' first | exact .refl _ | (refine .tupleC ?_) | (refine .cons ?_ ?_) | exact .nil | exact .slR (.refl _) | exact .refE trivial (by simp only [go_sem]; exact rfl) (by first | rfl | (simp; done) | (simp [rws, Enc.enc]; done) | fail) (by first | rfl | (simp [rws_length]; done) | (simp [rws_length]; omega) | fail) | exact .refF trivial (by simp only [go_sem]; exact rfl) (by first | assumption | fail) (by first | rfl | (simp [rws_length]; done) | (simp [rws_length]; omega) | fail) | exact .refP trivial (by simp only [go_sem]; exact rfl) (by first | rfl | assumption | (simp [rws_length]; omega)) (by omega) (by first | assumption | (simp only [List.drop_zero]; assumption)) | (refine .aggC ?_)))
      | fail) : p := h
theorem Zrw {p : Prop} (h : p := by
    first
      | ((with_reducible apply retU_of); (case h => simp (disch := omega) only [go_sem]; exact rfl); (case h2 => exact rfl); (case h3 => first | (simp only [go_sem]; done) | (simp only [go_sem]; exact rfl)))
      | fail) : p := h
theorem Zf {p : Prop} (h : p := by
    first
      | (simp [nm_nilp, nm_nilFunc, nm_nilIface, Fz.int_iff, Fz.bool_iff, Fz.agg_iff, Fz.str_iff, rws_fz_iff, ri_fz_iff, Fz.tuple_iff, enc_fz_iff, enc_mem_iff, Fz.fp_iff, Fz.func_iff])
      | fail) : p := h
end Go.AM
