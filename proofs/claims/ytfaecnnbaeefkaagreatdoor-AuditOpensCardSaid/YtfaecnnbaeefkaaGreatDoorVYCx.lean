/- A part of the proof of AuditOpens: the program run by the evaluator. No condition. -/
import Derived.Test.YtfaecnnbaeefkaaGreatDoorVELowB
import Derived.Test.YtfaecnnbaeefkaaGreatDoorVYGood
import Derived.Test.YtfaecnnbaeefkaaGreatDoorVYTab
import Derived.Test.YtfaecnnbaeefkaaGreatDoorVYExt
import Derived.Test.YtfaecnnbaeefkaaGreatDoorVYChanged
set_option linter.all false
namespace Go.Proofs
noncomputable section
open Go Go.VE Go.Extern
set_option maxRecDepth 100000
inductive AllL : List (Nat × LF) → Prop
  | nil : AllL []
  | cons {i : Nat} {lf : LF} {l : List (Nat × LF)} (h : lowAt i = some lf) (t : AllL l) : AllL ((i, lf) :: l)
theorem AllL.mem {l : List (Nat × LF)} (h : AllL l) : ∀ p ∈ l, lowAt p.1 = some p.2 := by
  induction h with
  | nil => intro p hp; cases hp
  | cons h t ih =>
    intro p hp
    rcases List.mem_cons.1 hp with rfl | hp
    · exact h
    · exact ih p hp
theorem low_all : AllL codeL := .cons eq_lf3 (.cons eq_lf4 (.cons eq_lf5 (.cons eq_lf6 (.cons eq_lf7 (.cons eq_lf8 (.cons eq_lf9 (.cons eq_lf10 (.cons eq_lf12 (.cons eq_lf13 (.cons eq_lf14 (.cons eq_lf15 (.cons eq_lf16 (.cons eq_lf17 (.cons eq_lf18 (.cons eq_lf19 (.cons eq_lf20 (.cons eq_lf21 (.cons eq_lf22 (.cons eq_lf23 (.cons eq_lf24 (.cons eq_lf25 (.cons eq_lf26 (.cons eq_lf27 (.cons eq_lf28 (.cons eq_lf29 (.cons eq_lf33 (.cons eq_lf35 (.cons eq_lf36 (.cons eq_lf37 (.cons eq_lf38 (.cons eq_lf39 (.cons eq_lf40 (.cons eq_lf41 (.cons eq_lf42 (.cons eq_lf43 (.cons eq_lf44 (.cons eq_lf45 (.cons eq_lf46 (.cons eq_lf47 (.cons eq_lf48 (.cons eq_lf49 (.cons eq_lf50 (.cons eq_lf51 (.cons eq_lf52 (.cons eq_lf53 (.cons eq_lf54 (.cons eq_lf55 (.cons eq_lf56 (.cons eq_lf57 (.cons eq_lf58 (.cons eq_lf59 (.cons eq_lf60 (.cons eq_lf61 (.cons eq_lf62 (.cons eq_lf63 (.cons eq_lf65 (.cons eq_lf67 (.cons eq_lf71 (.cons eq_lf72 (.cons eq_lf73 (.cons eq_lf74 (.cons eq_lf75 (.cons eq_lf76 (.cons eq_lf77 (.cons eq_lf78 (.cons eq_lf79 (.cons eq_lf80 (.cons eq_lf81 (.cons eq_lf82 (.cons eq_lf83 (.cons eq_lf84 (.cons eq_lf85 (.cons eq_lf87 (.cons eq_lf88 (.cons eq_lf89 (.cons eq_lf90 (.cons eq_lf91 (.cons eq_lf92 (.cons eq_lf93 (.cons eq_lf94 (.cons eq_lf95 (.cons eq_lf96 (.cons eq_lf97 (.cons eq_lf98 (.cons eq_lf99 (.cons eq_lf100 (.cons eq_lf101 (.cons eq_lf102 (.cons eq_lf103 (.cons eq_lf104 (.cons eq_lf105 (.cons eq_lf106 (.cons eq_lf107 (.cons eq_lf108 (.cons eq_lf109 (.cons eq_lf110 (.cons eq_lf111 (.cons eq_lf112 (.cons eq_lf113 (.cons eq_lf114 (.cons eq_lf115 (.cons eq_lf116 (.cons eq_lf120 (.cons eq_lf121 (.cons eq_lf123 (.cons eq_lf124 (.cons eq_lf125 (.cons eq_lf126 (.cons eq_lf127 (.cons eq_lf128 (.cons eq_lf129 (.cons eq_lf130 (.cons eq_lf131 (.cons eq_lf132 (.cons eq_lf133 (.cons eq_lf135 (.cons eq_lf136 (.cons eq_lf137 (.cons eq_lf138 (.cons eq_lf139 (.cons eq_lf140 (.cons eq_lf141 (.cons eq_lf143 (.cons eq_lf144 (.cons eq_lf145 (.cons eq_lf146 (.cons eq_lf147 (.cons eq_lf148 (.cons eq_lf149 (.cons eq_lf150 (.cons eq_lf151 (.cons eq_lf152 (.cons eq_lf153 (.cons eq_lf154 (.cons eq_lf155 (.cons eq_lf156 (.cons eq_lf157 (.cons eq_lf158 (.cons eq_lf159 (.cons eq_lf160 (.cons eq_lf161 (.cons eq_lf163 (.cons eq_lf164 (.cons eq_lf165 (.cons eq_lf166 (.cons eq_lf167 (.cons eq_lf168 (.cons eq_lf169 (.cons eq_lf171 (.cons eq_lf172 (.cons eq_lf173 (.cons eq_lf174 (.cons eq_lf175 (.cons eq_lf176 (.cons eq_lf177 (.cons eq_lf178 (.cons eq_lf179 (.cons eq_lf180 (.cons eq_lf181 (.cons eq_lf182 (.cons eq_lf183 (.cons eq_lf184 (.cons eq_lf185 (.cons eq_lf186 (.cons eq_lf187 (.cons eq_lf188 (.cons eq_lf189 (.cons eq_lf190 (.cons eq_lf191 (.cons eq_lf192 (.cons eq_lf193 (.cons eq_lf194 (.cons eq_lf195 (.cons eq_lf197 (.cons eq_lf198 (.cons eq_lf199 (.cons eq_lf200 (.cons eq_lf202 (.cons eq_lf203 (.cons eq_lf206 (.cons eq_lf207 (.cons eq_lf208 (.cons eq_lf209 (.cons eq_lf210 (.cons eq_lf211 (.cons eq_lf212 (.cons eq_lf213 (.cons eq_lf214 (.cons eq_lf215 (.cons eq_lf216 (.cons eq_lf217 (.cons eq_lf218 (.cons eq_lf219 (.cons eq_lf220 (.cons eq_lf221 (.cons eq_lf222 (.cons eq_lf228 (.cons eq_lf232 (.cons eq_lf233 (.cons eq_lf234 (.cons eq_lf235 (.cons eq_lf236 (.cons eq_lf237 (.cons eq_lf238 (.cons eq_lf240 (.cons eq_lf249 (.cons eq_lf250 (.cons eq_lf251 (.cons eq_lf253 (.cons eq_lf254 (.cons eq_lf256 (.cons eq_lf257 (.cons eq_lf258 (.cons eq_lf259 (.cons eq_lf260 (.cons eq_lf261 (.cons eq_lf262 (.cons eq_lf263 (.cons eq_lf264 (.cons eq_lf265 (.cons eq_lf266 (.cons eq_lf267 (.cons eq_lf269 (.cons eq_lf270 (.cons eq_lf271 (.cons eq_lf272 (.cons eq_lf273 (.cons eq_lf274 (.cons eq_lf275 (.cons eq_lf276 (.cons eq_lf278 (.cons eq_lf279 (.cons eq_lf280 (.cons eq_lf291 (.cons eq_lf293 (.cons eq_lf294 (.cons eq_lf295 (.cons eq_lf296 (.cons eq_lf297 (.cons eq_lf301 (.cons eq_lf302 (.cons eq_lf305 (.cons eq_lf307 (.cons eq_lf309 (.cons eq_lf310 (.cons eq_lf311 (.cons eq_lf312 (.cons eq_lf313 (.cons eq_lf314 (.cons eq_lf315 (.cons eq_lf316 (.cons eq_lf317 (.cons eq_lf318 (.cons eq_lf319 (.cons eq_lf321 (.cons eq_lf322 (.cons eq_lf324 (.cons eq_lf325 (.cons eq_lf334 (.cons eq_lf335 (.cons eq_lf347 (.cons eq_lf348 (.cons eq_lf349 (.cons eq_lf351 (.cons eq_lf366 (.cons eq_lf396 (.nil)))))))))))))))))))))))))))))))))))))))))))))))))))))))))))))))))))))))))))))))))))))))))))))))))))))))))))))))))))))))))))))))))))))))))))))))))))))))))))))))))))))))))))))))))))))))))))))))))))))))))))))))))))))))))))))))))))))))))))))))))))))))))))))))))))))))))))
theorem ctOf_mem : ∀ {l : List (Nat × LF)}, (∀ p ∈ l, p.1 < 1000000) → ∀ {f : Nat} {o : Option LF}, (ctOf l).get (f + 1) = some o → ∃ lf, o = some lf ∧ (f, lf) ∈ l
  | [], _, f, o, h => by
    unfold ctOf at h
    rw [T.get_nil] at h; cases h
  | p :: l, hb, f, o, h => by
    unfold ctOf at h
    have hp := hb p List.mem_cons_self
    rw [T.get_put _ _ _ _ (by omega) (by omega) (by omega)] at h
    split at h
    · rename_i hf
      have : f = p.1 := by omega
      subst this
      cases h
      exact ⟨p.2, rfl, List.mem_cons_self⟩
    · obtain ⟨lf, h1, h2⟩ := ctOf_mem (fun q hq => hb q (List.mem_cons_of_mem _ hq)) h
      exact ⟨lf, h1, List.mem_cons_of_mem _ h2⟩
noncomputable def ctL : T (Option LF) := (.node (.node (.node (.node (.node (.node (.node (.node .nil (some (some lf127)) .nil) (some (some lf63)) (.node (.node .nil (some (some lf319)) .nil) (some (some lf191)) .nil)) none (.node (.node .nil (some (some lf159)) .nil) (some (some lf95)) (.node (.node .nil (some (some lf351)) .nil) none .nil))) (some (some lf15)) (.node (.node (.node (.node .nil (some (some lf271)) .nil) (some (some lf143)) .nil) (some (some lf79)) (.node (.node .nil (some (some lf335)) .nil) (some (some lf207)) .nil)) (some (some lf47)) (.node (.node .nil (some (some lf175)) .nil) (some (some lf111)) .nil))) (some (some lf7)) (.node (.node (.node (.node (.node .nil (some (some lf263)) .nil) (some (some lf135)) .nil) (some (some lf71)) (.node .nil (some (some lf199)) .nil)) (some (some lf39)) (.node (.node (.node .nil (some (some lf295)) .nil) (some (some lf167)) .nil) (some (some lf103)) .nil)) (some (some lf23)) (.node (.node (.node (.node .nil (some (some lf279)) .nil) (some (some lf151)) .nil) (some (some lf87)) (.node .nil (some (some lf215)) .nil)) (some (some lf55)) (.node (.node (.node .nil (some (some lf311)) .nil) (some (some lf183)) .nil) none .nil)))) (some (some lf3)) (.node (.node (.node (.node (.node (.node .nil (some (some lf259)) .nil) (some (some lf131)) .nil) (some (some lf67)) (.node .nil (some (some lf195)) .nil)) (some (some lf35)) (.node (.node (.node .nil (some (some lf291)) .nil) (some (some lf163)) .nil) (some (some lf99)) .nil)) (some (some lf19)) (.node (.node (.node (.node .nil (some (some lf275)) .nil) (some (some lf147)) .nil) (some (some lf83)) (.node .nil (some (some lf211)) .nil)) (some (some lf51)) (.node (.node (.node .nil (some (some lf307)) .nil) (some (some lf179)) .nil) (some (some lf115)) .nil))) none (.node (.node (.node (.node (.node .nil (some (some lf267)) .nil) (some (some lf139)) .nil) (some (some lf75)) (.node .nil (some (some lf203)) .nil)) (some (some lf43)) (.node (.node .nil (some (some lf171)) .nil) (some (some lf107)) (.node .nil (some (some lf235)) .nil))) (some (some lf27)) (.node (.node (.node .nil (some (some lf155)) .nil) (some (some lf91)) (.node (.node .nil (some (some lf347)) .nil) (some (some lf219)) .nil)) (some (some lf59)) (.node (.node (.node .nil (some (some lf315)) .nil) (some (some lf187)) .nil) (some (some lf123)) (.node .nil (some (some lf251)) .nil)))))) none (.node (.node (.node (.node (.node (.node (.node .nil (some (some lf257)) .nil) (some (some lf129)) .nil) (some (some lf65)) (.node (.node .nil (some (some lf321)) .nil) (some (some lf193)) .nil)) (some (some lf33)) (.node (.node .nil (some (some lf161)) .nil) (some (some lf97)) .nil)) (some (some lf17)) (.node (.node (.node (.node .nil (some (some lf273)) .nil) (some (some lf145)) .nil) (some (some lf81)) (.node .nil (some (some lf209)) .nil)) (some (some lf49)) (.node (.node (.node .nil (some (some lf305)) .nil) (some (some lf177)) .nil) (some (some lf113)) .nil))) (some (some lf9)) (.node (.node (.node (.node (.node .nil (some (some lf265)) .nil) (some (some lf137)) .nil) (some (some lf73)) .nil) (some (some lf41)) (.node (.node (.node .nil (some (some lf297)) .nil) (some (some lf169)) .nil) (some (some lf105)) (.node .nil (some (some lf233)) .nil))) (some (some lf25)) (.node (.node (.node .nil (some (some lf153)) .nil) (some (some lf89)) (.node .nil (some (some lf217)) .nil)) (some (some lf57)) (.node (.node (.node .nil (some (some lf313)) .nil) (some (some lf185)) .nil) (some (some lf121)) (.node .nil (some (some lf249)) .nil))))) (some (some lf5)) (.node (.node (.node (.node (.node (.node .nil (some (some lf261)) .nil) (some (some lf133)) .nil) none (.node (.node .nil (some (some lf325)) .nil) (some (some lf197)) .nil)) (some (some lf37)) (.node (.node (.node .nil (some (some lf293)) .nil) (some (some lf165)) .nil) (some (some lf101)) .nil)) (some (some lf21)) (.node (.node (.node .nil (some (some lf149)) .nil) (some (some lf85)) (.node .nil (some (some lf213)) .nil)) (some (some lf53)) (.node (.node (.node .nil (some (some lf309)) .nil) (some (some lf181)) .nil) none .nil))) (some (some lf13)) (.node (.node (.node (.node (.node .nil (some (some lf269)) .nil) (some (some lf141)) .nil) (some (some lf77)) .nil) (some (some lf45)) (.node (.node (.node .nil (some (some lf301)) .nil) (some (some lf173)) .nil) (some (some lf109)) (.node .nil (some (some lf237)) .nil))) (some (some lf29)) (.node (.node (.node .nil (some (some lf157)) .nil) (some (some lf93)) (.node (.node .nil (some (some lf349)) .nil) (some (some lf221)) .nil)) (some (some lf61)) (.node (.node (.node .nil (some (some lf317)) .nil) (some (some lf189)) .nil) (some (some lf125)) (.node .nil (some (some lf253)) .nil))))))) none (.node (.node (.node (.node (.node (.node (.node (.node .nil (some (some lf256)) .nil) (some (some lf128)) .nil) none (.node .nil (some (some lf192)) .nil)) none (.node (.node .nil (some (some lf160)) .nil) (some (some lf96)) .nil)) (some (some lf16)) (.node (.node (.node (.node .nil (some (some lf272)) .nil) (some (some lf144)) .nil) (some (some lf80)) (.node .nil (some (some lf208)) .nil)) (some (some lf48)) (.node (.node .nil (some (some lf176)) .nil) (some (some lf112)) (.node .nil (some (some lf240)) .nil)))) (some (some lf8)) (.node (.node (.node (.node (.node .nil (some (some lf264)) .nil) (some (some lf136)) .nil) (some (some lf72)) (.node .nil (some (some lf200)) .nil)) (some (some lf40)) (.node (.node (.node .nil (some (some lf296)) .nil) (some (some lf168)) .nil) (some (some lf104)) (.node .nil (some (some lf232)) .nil))) (some (some lf24)) (.node (.node (.node (.node .nil (some (some lf280)) .nil) (some (some lf152)) .nil) (some (some lf88)) (.node .nil (some (some lf216)) .nil)) (some (some lf56)) (.node (.node (.node .nil (some (some lf312)) .nil) (some (some lf184)) .nil) (some (some lf120)) .nil)))) (some (some lf4)) (.node (.node (.node (.node (.node (.node .nil (some (some lf260)) .nil) (some (some lf132)) .nil) none (.node (.node .nil (some (some lf324)) .nil) none .nil)) (some (some lf36)) (.node (.node .nil (some (some lf164)) .nil) (some (some lf100)) (.node .nil (some (some lf228)) .nil))) (some (some lf20)) (.node (.node (.node (.node .nil (some (some lf276)) .nil) (some (some lf148)) .nil) (some (some lf84)) (.node .nil (some (some lf212)) .nil)) (some (some lf52)) (.node (.node .nil (some (some lf180)) .nil) (some (some lf116)) .nil))) (some (some lf12)) (.node (.node (.node (.node .nil (some (some lf140)) (.node .nil (some (some lf396)) .nil)) (some (some lf76)) .nil) (some (some lf44)) (.node (.node .nil (some (some lf172)) .nil) (some (some lf108)) (.node .nil (some (some lf236)) .nil))) (some (some lf28)) (.node (.node (.node .nil (some (some lf156)) .nil) (some (some lf92)) (.node (.node .nil (some (some lf348)) .nil) (some (some lf220)) .nil)) (some (some lf60)) (.node (.node (.node .nil (some (some lf316)) .nil) (some (some lf188)) .nil) (some (some lf124)) .nil))))) none (.node (.node (.node (.node (.node (.node (.node .nil (some (some lf258)) .nil) (some (some lf130)) .nil) none (.node (.node .nil (some (some lf322)) .nil) (some (some lf194)) .nil)) none (.node .nil (some (some lf98)) .nil)) (some (some lf18)) (.node (.node (.node (.node .nil (some (some lf274)) .nil) (some (some lf146)) .nil) (some (some lf82)) (.node .nil (some (some lf210)) .nil)) (some (some lf50)) (.node (.node .nil (some (some lf178)) .nil) (some (some lf114)) .nil))) (some (some lf10)) (.node (.node (.node (.node (.node .nil (some (some lf266)) .nil) (some (some lf138)) .nil) (some (some lf74)) (.node .nil (some (some lf202)) .nil)) (some (some lf42)) (.node .nil (some (some lf106)) (.node .nil (some (some lf234)) .nil))) (some (some lf26)) (.node (.node (.node .nil (some (some lf154)) .nil) (some (some lf90)) (.node .nil (some (some lf218)) .nil)) (some (some lf58)) (.node (.node (.node .nil (some (some lf314)) .nil) (some (some lf186)) .nil) none (.node .nil (some (some lf250)) .nil))))) (some (some lf6)) (.node (.node (.node (.node (.node (.node .nil (some (some lf262)) .nil) none .nil) none (.node .nil (some (some lf198)) .nil)) (some (some lf38)) (.node (.node (.node .nil (some (some lf294)) .nil) (some (some lf166)) .nil) (some (some lf102)) .nil)) (some (some lf22)) (.node (.node (.node (.node .nil (some (some lf278)) .nil) (some (some lf150)) .nil) none (.node .nil (some (some lf214)) .nil)) (some (some lf54)) (.node (.node (.node .nil (some (some lf310)) .nil) (some (some lf182)) .nil) none .nil))) (some (some lf14)) (.node (.node (.node (.node (.node .nil (some (some lf270)) .nil) none .nil) (some (some lf78)) (.node (.node .nil (some (some lf334)) .nil) (some (some lf206)) .nil)) (some (some lf46)) (.node (.node (.node .nil (some (some lf302)) .nil) (some (some lf174)) .nil) (some (some lf110)) (.node (.node .nil (some (some lf366)) .nil) (some (some lf238)) .nil))) none (.node (.node (.node .nil (some (some lf158)) .nil) (some (some lf94)) (.node .nil (some (some lf222)) .nil)) (some (some lf62)) (.node (.node (.node .nil (some (some lf318)) .nil) (some (some lf190)) .nil) (some (some lf126)) (.node .nil (some (some lf254)) .nil))))))))

theorem ctL_eq : ctOf codeL = ctL := by kernel_rfl
theorem codeL_small : ∀ p ∈ codeL, p.1 < 1000000 := by
  have : codeL.all (fun p => Nat.blt p.1 1000000) = true := by kernel_rfl
  intro p hp
  have := List.all_eq_true.1 this p hp
  rwa [Nat.blt_eq] at this
noncomputable def iterL (g : Nat) : Option LG := br (Nat.beq g 239) (some lg239) (br (Nat.beq g 304) (some lg304) (br (Nat.beq g 326) (some lg326) none))
theorem lowG_of {g : Nat} {lg : LG} (h : lowGAt g = some lg) (hg : goodGAt g = true) : ∃ fn, Tryz.prog.funcs[g]? = some fn ∧ lowGF tbT fn = some lg ∧ iterGood tbT fn = true := by
  unfold lowGAt at h
  unfold goodGAt at hg
  cases hf : Tryz.prog.funcs[g]? with
  | none => rw [hf] at h; cases h
  | some fn => rw [hf] at h hg; exact ⟨fn, rfl, h, hg⟩
theorem iterL_ok : IterOk Tryz.prog tbT iterL := iter_ok tb_ok fun g lg h => by
  unfold iterL at h
  have hall := List.all_eq_true.1 goodsG
  rw [br_if] at h
  split at h
  · rename_i hg; have := beq_n hg; subst this; cases h
    exact lowG_of eq_lg239 (hall 239 (by simp))
  · rw [br_if] at h
    split at h
    · rename_i hg; have := beq_n hg; subst this; cases h
      exact lowG_of eq_lg304 (hall 304 (by simp))
    · rw [br_if] at h
      split at h
      · rename_i hg; have := beq_n hg; subst this; cases h
        exact lowG_of eq_lg326 (hall 326 (by simp))
      · cases h
def isT : List (Nat × IK) := [(357, .idx), (333, .cnt), (248, .cmp), (34, .typeOf), (30, .valueOf), (31, .vType), (32, .isNil), (69, .vElem), (70, .vSet), (401, .assg), (402, .comp), (403, .tElem), (404, .impl), (390, .kind)]
theorem assocI_cons (a c : Nat) (v : IK) (l : List (Nat × IK)) : assocI a ((c, v) :: l) = if Nat.beq a c = true then some v else assocI a l := br_if ..
theorem isT_ok {f : Nat} {i : List AV → H → Nat → K → RR} (hi : intrA tabT (assocI f isT) = some i) (args : List AV) (h : H) (n : Nat) (k : K) (rr : RR) (hr : i args h n k = rr) (hne : rr ≠ .fail) : CallLaw Tryz.prog f args h n k rr := by
  unfold isT at hi
  have go : ∀ {g : Nat} {z : IK}, Nat.beq f g = true → intrA tabT (some z) = some i → f = g ∧ i = intrK tabT z := fun h1 h2 => ⟨beq_n h1, by cases h2; rfl⟩
  rw [assocI_cons] at hi
  split at hi
  · rename_i hb; obtain ⟨rfl, rfl⟩ := go hb hi; exact iIdx_law ext357 hr hne
  rw [assocI_cons] at hi
  split at hi
  · rename_i hb; obtain ⟨rfl, rfl⟩ := go hb hi; exact iCnt_law ext333 hr hne
  rw [assocI_cons] at hi
  split at hi
  · rename_i hb; obtain ⟨rfl, rfl⟩ := go hb hi; exact iCmp_law ext248 hr hne
  rw [assocI_cons] at hi
  split at hi
  · rename_i hb; obtain ⟨rfl, rfl⟩ := go hb hi; exact iTypeOf_law tab_ok ext34 hr hne
  rw [assocI_cons] at hi
  split at hi
  · rename_i hb; obtain ⟨rfl, rfl⟩ := go hb hi; exact iValueOf_law tab_ok ext30 hr hne
  rw [assocI_cons] at hi
  split at hi
  · rename_i hb; obtain ⟨rfl, rfl⟩ := go hb hi; exact iVType_law tab_ok ext31 hr hne
  rw [assocI_cons] at hi
  split at hi
  · rename_i hb; obtain ⟨rfl, rfl⟩ := go hb hi; exact iIsNil_law tab_ok ext32 hr hne
  rw [assocI_cons] at hi
  split at hi
  · rename_i hb; obtain ⟨rfl, rfl⟩ := go hb hi; exact iVElem_law tab_ok ext69 hr hne
  rw [assocI_cons] at hi
  split at hi
  · rename_i hb; obtain ⟨rfl, rfl⟩ := go hb hi; exact iVSet_law tab_ok ext70 hr hne
  rw [assocI_cons] at hi
  split at hi
  · rename_i hb; obtain ⟨rfl, rfl⟩ := go hb hi; exact iAssg_law tab_ok ext401 hr hne
  rw [assocI_cons] at hi
  split at hi
  · rename_i hb; obtain ⟨rfl, rfl⟩ := go hb hi; exact iComp_law tab_ok ext402 hr hne
  rw [assocI_cons] at hi
  split at hi
  · rename_i hb; obtain ⟨rfl, rfl⟩ := go hb hi; exact iTElem_law tab_ok ext403 hr hne
  rw [assocI_cons] at hi
  split at hi
  · rename_i hb; obtain ⟨rfl, rfl⟩ := go hb hi; exact iImpl_law tab_ok ext404 hr hne
  rw [assocI_cons] at hi
  split at hi
  · rename_i hb; obtain ⟨rfl, rfl⟩ := go hb hi; exact iKind_law tab_ok ext390 hr hne
  cases hi
noncomputable def cxT (ex : Nat → Option (List AV → H → Nat → K → RR)) : Cx := reck ctL tabT isT ex iterL
def ExOk (ex : Nat → Option (List AV → H → Nat → K → RR)) : Prop := ∀ f i, ex f = some i → ∀ (args : List AV) (h : H) (n : Nat) (k : K) (rr : RR), i args h n k = rr → rr ≠ .fail → CallLaw Tryz.prog f args h n k rr
theorem cxT_ok {ex : Nat → Option (List AV → H → Nat → K → RR)} (hex : ExOk ex) : CxOk Tryz.prog tbT (cxT ex) := by
  refine cx_ok tb_ok (fun f lf hf => ?_) iterL_ok fun f i hi args h n k rr hr hne => ?_
  · have hf' : joinLF (ctL.get (f + 1)) = some lf := hf
    cases hg : ctL.get (f + 1) with
    | none => rw [hg] at hf'; cases hf'
    | some o =>
      rw [hg] at hf'
      have h1 : o = some lf := hf'
      subst h1
      rw [← ctL_eq] at hg
      obtain ⟨lf', h2, h3⟩ := ctOf_mem codeL_small hg
      cases h2
      have h4 := low_all.mem _ h3
      have h5 := List.all_eq_true.1 goods _ h3
      unfold lowAt at h4
      unfold goodAt at h5
      simp only at h4 h5
      cases hfn : Tryz.prog.funcs[f]? with
      | none => rw [hfn] at h4; cases h4
      | some fn => rw [hfn] at h4 h5; exact ⟨fn, rfl, h4, h5⟩
  · have hi' : (match ex f with | some i => some i | none => intrA tabT (assocI f isT)) = some i := hi
    cases he : ex f with
    | some j =>
      rw [he] at hi'
      cases hi'
      exact hex f i he args h n k rr hr hne
    | none =>
      rw [he] at hi'
      exact isT_ok hi' args h n k rr hr hne
theorem callable134 : Callable Tryz.prog 134 := ⟨_, Tryz.func134, by kernel_rfl, by kernel_rfl⟩
theorem und3 : Tryz.prog.underlying 3 = some (.int .i64) := by kernel_rfl
def ex0 (f : Nat) : Option (List AV → H → Nat → K → RR) := br (Nat.beq f 134) (some (iChanged 2)) none
theorem ex0_ok : ExOk ex0 := fun f i hi args h n k rr hr hne => by
  unfold ex0 at hi
  obtain ⟨h1, h2⟩ := br_some hi
  have := beq_n h1; subst this
  cases h2
  exact changed_law und3 Tryz.ch callable134 hr hne
/-- The evaluator's calls are sound at this program. -/
theorem run_ok {ex : Nat → Option (List AV → H → Nat → K → RR)} (hex : ExOk ex) (d : Nat) : CallOk Tryz.prog (lv (cxT ex) d).call := lv_ok tb_ok mixed (cxT_ok hex) d
end
end Go.Proofs
