/- A part of the proof of BootCands: the program run by the evaluator. No condition. -/
import Derived.Test.YtjpelmgihpmohaaGreatDoorVBLowB
import Derived.Test.YtjpelmgihpmohaaGreatDoorVBGood
import Derived.Test.YtjpelmgihpmohaaGreatDoorVBTab
import Derived.Test.YtjpelmgihpmohaaGreatDoorVBExt
import Derived.Test.YtjpelmgihpmohaaGreatDoorVYChanged
set_option linter.all false
namespace Go.Proofs
noncomputable section
noncomputable section
open Go Go.VE Go.Extern
set_option maxRecDepth 100000
inductive AllL:List (Nat × LF)→Prop
 | nil:AllL []
 | cons {i:Nat} {lf:LF} {l:List (Nat × LF)} (h:lowAt i=some lf) (t:AllL l):AllL ((i,lf) :: l)
theorem AllL.mem {l:List (Nat × LF)} (h:AllL l):∀ p ∈ l,lowAt p.1=some p.2:=by
 induction h with
 | nil=>intro p hp; cases hp
 | cons h t ih=>
  intro p hp
  rcases List.mem_cons.1 hp with rfl | hp
  ·exact h
  ·exact ih p hp
theorem low_all:AllL codeL:=.cons eq_lf3 (.cons eq_lf6 (.cons eq_lf7 (.cons eq_lf8 (.cons eq_lf9 (.cons eq_lf10 (.cons eq_lf11 (.cons eq_lf12 (.cons eq_lf13 (.cons eq_lf24 (.cons eq_lf25 (.cons eq_lf26 (.cons eq_lf27 (.cons eq_lf28 (.cons eq_lf29 (.cons eq_lf30 (.cons eq_lf31 (.cons eq_lf32 (.cons eq_lf33 (.cons eq_lf34 (.cons eq_lf35 (.cons eq_lf36 (.cons eq_lf37 (.cons eq_lf38 (.cons eq_lf39 (.cons eq_lf40 (.cons eq_lf41 (.cons eq_lf42 (.cons eq_lf43 (.cons eq_lf44 (.cons eq_lf45 (.cons eq_lf46 (.cons eq_lf47 (.cons eq_lf53 (.cons eq_lf61 (.cons eq_lf64 (.cons eq_lf65 (.cons eq_lf66 (.cons eq_lf69 (.cons eq_lf72 (.cons eq_lf73 (.cons eq_lf74 (.cons eq_lf75 (.cons eq_lf76 (.cons eq_lf77 (.cons eq_lf78 (.cons eq_lf79 (.cons eq_lf80 (.cons eq_lf81 (.cons eq_lf82 (.cons eq_lf83 (.cons eq_lf84 (.cons eq_lf85 (.cons eq_lf86 (.cons eq_lf87 (.cons eq_lf88 (.cons eq_lf89 (.cons eq_lf90 (.cons eq_lf91 (.cons eq_lf92 (.cons eq_lf93 (.cons eq_lf94 (.cons eq_lf95 (.cons eq_lf96 (.cons eq_lf97 (.cons eq_lf98 (.cons eq_lf99 (.cons eq_lf100 (.cons eq_lf101 (.cons eq_lf102 (.cons eq_lf103 (.cons eq_lf104 (.cons eq_lf105 (.cons eq_lf106 (.cons eq_lf107 (.cons eq_lf108 (.cons eq_lf109 (.cons eq_lf110 (.cons eq_lf111 (.cons eq_lf112 (.cons eq_lf116 (.cons eq_lf118 (.cons eq_lf119 (.cons eq_lf120 (.cons eq_lf121 (.cons eq_lf122 (.cons eq_lf123 (.cons eq_lf127 (.cons eq_lf129 (.cons eq_lf130 (.cons eq_lf131 (.cons eq_lf134 (.cons eq_lf136 (.cons eq_lf140 (.cons eq_lf143 (.cons eq_lf144 (.cons eq_lf149 (.cons eq_lf150 (.cons eq_lf151 (.cons eq_lf152 (.cons eq_lf153 (.cons eq_lf154 (.cons eq_lf155 (.cons eq_lf157 (.cons eq_lf159 (.cons eq_lf160 (.cons eq_lf161 (.cons eq_lf162 (.cons eq_lf163 (.cons eq_lf164 (.cons eq_lf165 (.cons eq_lf166 (.cons eq_lf167 (.cons eq_lf168 (.cons eq_lf169 (.cons eq_lf170 (.cons eq_lf171 (.cons eq_lf172 (.cons eq_lf173 (.cons eq_lf174 (.cons eq_lf175 (.cons eq_lf176 (.cons eq_lf177 (.cons eq_lf178 (.cons eq_lf179 (.cons eq_lf180 (.cons eq_lf181 (.cons eq_lf182 (.cons eq_lf183 (.cons eq_lf184 (.cons eq_lf185 (.cons eq_lf186 (.cons eq_lf187 (.cons eq_lf188 (.cons eq_lf189 (.cons eq_lf190 (.cons eq_lf191 (.cons eq_lf192 (.cons eq_lf193 (.cons eq_lf194 (.cons eq_lf195 (.cons eq_lf196 (.cons eq_lf199 (.cons eq_lf200 (.cons eq_lf201 (.cons eq_lf202 (.cons eq_lf210 (.cons eq_lf211 (.cons eq_lf212 (.cons eq_lf213 (.cons eq_lf216 (.cons eq_lf217 (.cons eq_lf221 (.cons eq_lf223 (.cons eq_lf224 (.cons eq_lf228 (.cons eq_lf229 (.cons eq_lf230 (.cons eq_lf231 (.cons eq_lf232 (.cons eq_lf233 (.cons eq_lf234 (.cons eq_lf235 (.cons eq_lf236 (.cons eq_lf237 (.cons eq_lf239 (.cons eq_lf240 (.cons eq_lf241 (.cons eq_lf242 (.cons eq_lf243 (.cons eq_lf244 (.cons eq_lf246 (.cons eq_lf247 (.cons eq_lf248 (.cons eq_lf249 (.cons eq_lf250 (.cons eq_lf251 (.cons eq_lf252 (.cons eq_lf253 (.cons eq_lf254 (.cons eq_lf255 (.cons eq_lf256 (.cons eq_lf257 (.cons eq_lf258 (.cons eq_lf259 (.cons eq_lf260 (.cons eq_lf262 (.cons eq_lf263 (.cons eq_lf264 (.cons eq_lf265 (.cons eq_lf266 (.cons eq_lf267 (.cons eq_lf268 (.cons eq_lf269 (.cons eq_lf270 (.cons eq_lf271 (.cons eq_lf272 (.cons eq_lf273 (.cons eq_lf274 (.cons eq_lf275 (.cons eq_lf276 (.cons eq_lf277 (.cons eq_lf278 (.cons eq_lf281 (.cons eq_lf282 (.cons eq_lf283 (.cons eq_lf284 (.cons eq_lf285 (.cons eq_lf286 (.cons eq_lf287 (.cons eq_lf288 (.cons eq_lf289 (.cons eq_lf290 (.cons eq_lf291 (.cons eq_lf292 (.cons eq_lf293 (.cons eq_lf297 (.cons eq_lf298 (.cons eq_lf299 (.cons eq_lf300 (.cons eq_lf301 (.cons eq_lf302 (.cons eq_lf309 (.cons eq_lf310 (.cons eq_lf311 (.cons eq_lf312 (.cons eq_lf313 (.cons eq_lf314 (.cons eq_lf315 (.cons eq_lf319 (.cons eq_lf320 (.cons eq_lf321 (.cons eq_lf322 (.cons eq_lf323 (.cons eq_lf324 (.cons eq_lf325 (.cons eq_lf326 (.cons eq_lf329 (.cons eq_lf330 (.cons eq_lf331 (.cons eq_lf332 (.cons eq_lf333 (.cons eq_lf334 (.cons eq_lf335 (.cons eq_lf336 (.cons eq_lf337 (.cons eq_lf338 (.cons eq_lf339 (.cons eq_lf340 (.cons eq_lf342 (.cons eq_lf345 (.cons eq_lf347 (.cons eq_lf349 (.cons eq_lf351 (.cons eq_lf353 (.cons eq_lf354 (.cons eq_lf355 (.cons eq_lf357 (.cons eq_lf358 (.cons eq_lf360 (.cons eq_lf361 (.cons eq_lf362 (.cons eq_lf364 (.cons eq_lf366 (.cons eq_lf367 (.cons eq_lf368 (.cons eq_lf369 (.cons eq_lf370 (.cons eq_lf371 (.cons eq_lf372 (.cons eq_lf375 (.cons eq_lf376 (.cons eq_lf377 (.cons eq_lf378 (.cons eq_lf382 (.cons eq_lf384 (.cons eq_lf385 (.cons eq_lf386 (.cons eq_lf387 (.cons eq_lf392 (.cons eq_lf395 (.cons eq_lf396 (.cons eq_lf399 (.cons eq_lf400 (.cons eq_lf401 (.cons eq_lf402 (.cons eq_lf403 (.cons eq_lf404 (.cons eq_lf406 (.cons eq_lf411 (.cons eq_lf412 (.cons eq_lf413 (.cons eq_lf418 (.cons eq_lf421 (.cons eq_lf422 (.cons eq_lf425 (.cons eq_lf426 (.cons eq_lf427 (.cons eq_lf428 (.cons eq_lf433 (.cons eq_lf434 (.cons eq_lf444 (.cons eq_lf447 (.cons eq_lf456 (.cons eq_lf465 (.cons eq_lf468 (.cons eq_lf470 (.cons eq_lf509 (.nil))))))))))))))))))))))))))))))))))))))))))))))))))))))))))))))))))))))))))))))))))))))))))))))))))))))))))))))))))))))))))))))))))))))))))))))))))))))))))))))))))))))))))))))))))))))))))))))))))))))))))))))))))))))))))))))))))))))))))))))))))))))))))))))))))))))))))))))))))))))))))))))))))))))))))))))))))))
theorem ctOf_mem:∀ {l:List (Nat × LF)},(∀ p ∈ l,p.1 < 1000000)→∀ {f:Nat} {o:Option LF},(ctOf l).get (f + 1)=some o→∃ lf,o=some lf∧(f,lf) ∈ l
 | [],_,f,o,h=>by
  unfold ctOf at h
  rw [T.get_nil] at h; cases h
 | p :: l,hb,f,o,h=>by
  unfold ctOf at h
  have hp:=hb p List.mem_cons_self
  rw [T.get_put _ _ _ _ (by omega) (by omega) (by omega)] at h
  split at h
  ·rename_i hf
   have:f=p.1:=by omega
   subst this
   cases h
   exact ⟨p.2,rfl,List.mem_cons_self⟩
  ·obtain ⟨lf,h1,h2⟩:=ctOf_mem (fun q hq=>hb q (List.mem_cons_of_mem _ hq)) h
   exact ⟨lf,h1,List.mem_cons_of_mem _ h2⟩
def ctL:T (Option LF):=(.node (.node (.node (.node (.node (.node (.node (.node (.node .nil (some (some lf255)) .nil) (some (some lf127)) .nil) none (.node (.node .nil (some (some lf319)) .nil) (some (some lf191)) (.node .nil (some (some lf447)) .nil))) (some (some lf31)) (.node (.node (.node .nil (some (some lf287)) .nil) (some (some lf159)) .nil) (some (some lf95)) (.node (.node .nil (some (some lf351)) .nil) (some (some lf223)) .nil))) none (.node (.node (.node (.node .nil (some (some lf271)) .nil) (some (some lf143)) (.node .nil (some (some lf399)) .nil)) (some (some lf79)) (.node (.node .nil (some (some lf335)) .nil) none .nil)) (some (some lf47)) (.node (.node .nil (some (some lf175)) .nil) (some (some lf111)) (.node (.node .nil (some (some lf367)) .nil) (some (some lf239)) .nil)))) (some (some lf7)) (.node (.node (.node (.node (.node .nil (some (some lf263)) .nil) none .nil) none (.node .nil (some (some lf199)) .nil)) (some (some lf39)) (.node (.node .nil (some (some lf167)) .nil) (some (some lf103)) (.node .nil (some (some lf231)) .nil))) none (.node (.node (.node .nil (some (some lf151)) .nil) (some (some lf87)) .nil) none (.node (.node (.node .nil (some (some lf311)) .nil) (some (some lf183)) .nil) (some (some lf119)) (.node (.node .nil (some (some lf375)) .nil) (some (some lf247)) .nil))))) (some (some lf3)) (.node (.node (.node (.node (.node (.node .nil (some (some lf259)) .nil) (some (some lf131)) (.node .nil (some (some lf387)) .nil)) none (.node (.node .nil (some (some lf323)) .nil) (some (some lf195)) .nil)) (some (some lf35)) (.node (.node (.node .nil (some (some lf291)) .nil) (some (some lf163)) .nil) (some (some lf99)) (.node (.node .nil (some (some lf355)) .nil) none .nil))) none (.node (.node (.node (.node .nil (some (some lf275)) .nil) none (.node .nil (some (some lf403)) .nil)) (some (some lf83)) (.node (.node .nil (some (some lf339)) .nil) (some (some lf211)) .nil)) none (.node (.node .nil (some (some lf179)) .nil) none (.node (.node .nil (some (some lf371)) .nil) (some (some lf243)) .nil)))) (some (some lf11)) (.node (.node (.node (.node (.node .nil (some (some lf267)) .nil) none (.node .nil (some (some lf395)) .nil)) (some (some lf75)) (.node (.node .nil (some (some lf331)) .nil) none .nil)) (some (some lf43)) (.node (.node (.node .nil (some (some lf299)) .nil) (some (some lf171)) (.node .nil (some (some lf427)) .nil)) (some (some lf107)) (.node .nil (some (some lf235)) .nil))) (some (some lf27)) (.node (.node (.node (.node .nil (some (some lf283)) .nil) (some (some lf155)) (.node .nil (some (some lf411)) .nil)) (some (some lf91)) (.node (.node .nil (some (some lf347)) .nil) none .nil)) none (.node (.node (.node .nil (some (some lf315)) .nil) (some (some lf187)) .nil) (some (some lf123)) (.node .nil (some (some lf251)) .nil)))))) none (.node (.node (.node (.node (.node (.node (.node .nil (some (some lf257)) .nil) (some (some lf129)) (.node .nil (some (some lf385)) .nil)) (some (some lf65)) (.node (.node .nil (some (some lf321)) .nil) (some (some lf193)) .nil)) (some (some lf33)) (.node (.node (.node .nil (some (some lf289)) .nil) (some (some lf161)) .nil) (some (some lf97)) (.node (.node .nil (some (some lf353)) .nil) none .nil))) none (.node (.node (.node (.node .nil (some (some lf273)) .nil) none (.node .nil (some (some lf401)) .nil)) (some (some lf81)) (.node (.node .nil (some (some lf337)) .nil) none (.node .nil (some (some lf465)) .nil))) none (.node (.node .nil (some (some lf177)) (.node .nil (some (some lf433)) .nil)) none (.node (.node .nil (some (some lf369)) .nil) (some (some lf241)) .nil)))) (some (some lf9)) (.node (.node (.node (.node (.node .nil (some (some lf265)) .nil) none .nil) (some (some lf73)) (.node (.node .nil (some (some lf329)) .nil) (some (some lf201)) .nil)) (some (some lf41)) (.node (.node (.node .nil (some (some lf297)) .nil) (some (some lf169)) (.node .nil (some (some lf425)) .nil)) (some (some lf105)) (.node (.node .nil (some (some lf361)) .nil) (some (some lf233)) .nil))) (some (some lf25)) (.node (.node (.node (.node .nil (some (some lf281)) .nil) (some (some lf153)) .nil) (some (some lf89)) (.node (.node .nil (some (some lf345)) .nil) (some (some lf217)) .nil)) none (.node (.node (.node .nil (some (some lf313)) .nil) (some (some lf185)) .nil) (some (some lf121)) (.node (.node .nil (some (some lf377)) .nil) (some (some lf249)) .nil))))) none (.node (.node (.node (.node .nil (some (some lf69)) (.node (.node .nil (some (some lf325)) .nil) none .nil)) (some (some lf37)) (.node (.node (.node .nil (some (some lf293)) .nil) (some (some lf165)) (.node .nil (some (some lf421)) .nil)) (some (some lf101)) (.node (.node .nil (some (some lf357)) .nil) (some (some lf229)) .nil))) none (.node (.node (.node (.node .nil (some (some lf277)) .nil) (some (some lf149)) .nil) (some (some lf85)) (.node .nil (some (some lf213)) .nil)) (some (some lf53)) (.node (.node (.node .nil (some (some lf309)) .nil) (some (some lf181)) .nil) none .nil))) (some (some lf13)) (.node (.node (.node (.node (.node .nil (some (some lf269)) .nil) none .nil) (some (some lf77)) (.node (.node .nil (some (some lf333)) .nil) none .nil)) (some (some lf45)) (.node (.node (.node .nil (some (some lf301)) .nil) (some (some lf173)) .nil) (some (some lf109)) (.node .nil (some (some lf237)) .nil))) (some (some lf29)) (.node (.node (.node (.node .nil (some (some lf285)) .nil) (some (some lf157)) (.node .nil (some (some lf413)) .nil)) (some (some lf93)) (.node (.node .nil (some (some lf349)) .nil) (some (some lf221)) .nil)) (some (some lf61)) (.node (.node .nil (some (some lf189)) .nil) none (.node .nil (some (some lf253)) (.node .nil (some (some lf509)) .nil)))))))) none (.node (.node (.node (.node (.node (.node (.node (.node .nil (some (some lf256)) .nil) none (.node .nil (some (some lf384)) .nil)) (some (some lf64)) (.node (.node .nil (some (some lf320)) .nil) (some (some lf192)) .nil)) (some (some lf32)) (.node (.node (.node .nil (some (some lf288)) .nil) (some (some lf160)) .nil) (some (some lf96)) (.node .nil (some (some lf224)) .nil))) none (.node (.node (.node (.node .nil (some (some lf272)) .nil) (some (some lf144)) (.node .nil (some (some lf400)) .nil)) (some (some lf80)) (.node (.node .nil (some (some lf336)) .nil) none .nil)) none (.node (.node .nil (some (some lf176)) .nil) (some (some lf112)) (.node (.node .nil (some (some lf368)) .nil) (some (some lf240)) .nil)))) (some (some lf8)) (.node (.node (.node (.node (.node .nil (some (some lf264)) .nil) (some (some lf136)) (.node .nil (some (some lf392)) .nil)) (some (some lf72)) (.node .nil (some (some lf200)) (.node .nil (some (some lf456)) .nil))) (some (some lf40)) (.node (.node .nil (some (some lf168)) .nil) (some (some lf104)) (.node (.node .nil (some (some lf360)) .nil) (some (some lf232)) .nil))) (some (some lf24)) (.node (.node (.node .nil (some (some lf152)) .nil) (some (some lf88)) (.node .nil (some (some lf216)) .nil)) none (.node (.node (.node .nil (some (some lf312)) .nil) (some (some lf184)) .nil) (some (some lf120)) (.node (.node .nil (some (some lf376)) .nil) (some (some lf248)) .nil))))) none (.node (.node (.node (.node (.node (.node .nil (some (some lf260)) .nil) none .nil) none (.node (.node .nil (some (some lf324)) .nil) (some (some lf196)) .nil)) (some (some lf36)) (.node (.node (.node .nil (some (some lf292)) .nil) (some (some lf164)) .nil) (some (some lf100)) (.node .nil (some (some lf228)) .nil))) none (.node (.node (.node (.node .nil (some (some lf276)) .nil) none (.node .nil (some (some lf404)) .nil)) (some (some lf84)) (.node (.node .nil (some (some lf340)) .nil) (some (some lf212)) (.node .nil (some (some lf468)) .nil))) none (.node (.node .nil (some (some lf180)) .nil) (some (some lf116)) (.node (.node .nil (some (some lf372)) .nil) (some (some lf244)) .nil)))) (some (some lf12)) (.node (.node (.node (.node (.node .nil (some (some lf268)) .nil) (some (some lf140)) (.node .nil (some (some lf396)) .nil)) (some (some lf76)) (.node (.node .nil (some (some lf332)) .nil) none .nil)) (some (some lf44)) (.node (.node (.node .nil (some (some lf300)) .nil) (some (some lf172)) (.node .nil (some (some lf428)) .nil)) (some (some lf108)) (.node (.node .nil (some (some lf364)) .nil) (some (some lf236)) .nil))) (some (some lf28)) (.node (.node (.node (.node .nil (some (some lf284)) .nil) none (.node .nil (some (some lf412)) .nil)) (some (some lf92)) .nil) none (.node (.node .nil (some (some lf188)) (.node .nil (some (some lf444)) .nil)) none (.node .nil (some (some lf252)) .nil)))))) none (.node (.node (.node (.node (.node (.node (.node .nil (some (some lf258)) .nil) (some (some lf130)) (.node .nil (some (some lf386)) .nil)) (some (some lf66)) (.node (.node .nil (some (some lf322)) .nil) (some (some lf194)) .nil)) (some (some lf34)) (.node (.node (.node .nil (some (some lf290)) .nil) (some (some lf162)) (.node .nil (some (some lf418)) .nil)) (some (some lf98)) (.node (.node .nil (some (some lf354)) .nil) none .nil))) none (.node (.node (.node (.node .nil (some (some lf274)) .nil) none (.node .nil (some (some lf402)) .nil)) (some (some lf82)) (.node (.node .nil (some (some lf338)) .nil) (some (some lf210)) .nil)) none (.node (.node .nil (some (some lf178)) (.node .nil (some (some lf434)) .nil)) none (.node (.node .nil (some (some lf370)) .nil) (some (some lf242)) .nil)))) (some (some lf10)) (.node (.node (.node (.node (.node .nil (some (some lf266)) .nil) none .nil) (some (some lf74)) (.node (.node .nil (some (some lf330)) .nil) (some (some lf202)) .nil)) (some (some lf42)) (.node (.node (.node .nil (some (some lf298)) .nil) (some (some lf170)) (.node .nil (some (some lf426)) .nil)) (some (some lf106)) (.node (.node .nil (some (some lf362)) .nil) (some (some lf234)) .nil))) (some (some lf26)) (.node (.node (.node (.node .nil (some (some lf282)) .nil) (some (some lf154)) .nil) (some (some lf90)) .nil) none (.node (.node (.node .nil (some (some lf314)) .nil) (some (some lf186)) .nil) (some (some lf122)) (.node (.node .nil (some (some lf378)) .nil) (some (some lf250)) .nil))))) (some (some lf6)) (.node (.node (.node (.node (.node (.node .nil (some (some lf262)) .nil) (some (some lf134)) .nil) none (.node (.node .nil (some (some lf326)) .nil) none .nil)) (some (some lf38)) (.node (.node .nil (some (some lf166)) (.node .nil (some (some lf422)) .nil)) (some (some lf102)) (.node (.node .nil (some (some lf358)) .nil) (some (some lf230)) .nil))) none (.node (.node (.node (.node .nil (some (some lf278)) .nil) (some (some lf150)) (.node .nil (some (some lf406)) .nil)) (some (some lf86)) (.node (.node .nil (some (some lf342)) .nil) none (.node .nil (some (some lf470)) .nil))) none (.node (.node (.node .nil (some (some lf310)) .nil) (some (some lf182)) .nil) (some (some lf118)) (.node .nil (some (some lf246)) .nil)))) none (.node (.node (.node (.node (.node .nil (some (some lf270)) .nil) none .nil) (some (some lf78)) (.node (.node .nil (some (some lf334)) .nil) none .nil)) (some (some lf46)) (.node (.node (.node .nil (some (some lf302)) .nil) (some (some lf174)) .nil) (some (some lf110)) (.node (.node .nil (some (some lf366)) .nil) none .nil))) (some (some lf30)) (.node (.node (.node (.node .nil (some (some lf286)) .nil) none .nil) (some (some lf94)) .nil) none (.node (.node .nil (some (some lf190)) .nil) none (.node (.node .nil (some (some lf382)) .nil) (some (some lf254)) .nil))))))))

theorem ctL_eq:ctOf codeL=ctL:=by kernel_rfl
theorem codeL_small:∀ p ∈ codeL,p.1 < 1000000:=by
 have:codeL.all (fun p=>Nat.blt p.1 1000000)=true:=by kernel_rfl
 intro p hp
 have:=List.all_eq_true.1 this p hp
 rwa [Nat.blt_eq] at this
def iterL (g:Nat):Option LG:=br (Nat.beq g 341) (some lg341) (br (Nat.beq g 356) (some lg356) (br (Nat.beq g 398) (some lg398) none))
theorem lowG_of {g:Nat} {lg:LG} (h:lowGAt g=some lg) (hg:goodGAt g=true):∃ fn,Tryz.prog.funcs[g]?=some fn∧ztf tbT fn=some lg∧zi0 tbT fn=true:=by
 unfold lowGAt at h
 unfold goodGAt at hg
 cases hf:Tryz.prog.funcs[g]? with
 | none=>rw [hf] at h; cases h
 | some fn=>rw [hf] at h hg; exact ⟨fn,rfl,h,hg⟩
theorem iterL_ok:zkk Tryz.prog tbT iterL:=zy2 tb_ok fun g lg h=>by
 unfold iterL at h
 have hall:=List.all_eq_true.1 goodsG
 rw [zay] at h
 split at h
 ·rename_i hg; have:=zak hg; subst this; cases h
  exact lowG_of eq_lg341 (hall 341 (by simp))
 ·rw [zay] at h
  split at h
  ·rename_i hg; have:=zak hg; subst this; cases h
   exact lowG_of eq_lg356 (hall 356 (by simp))
  ·rw [zay] at h
   split at h
   ·rename_i hg; have:=zak hg; subst this; cases h
    exact lowG_of eq_lg398 (hall 398 (by simp))
   ·cases h
def isT:List (Nat × IK):=[(466,.idx),(446,.cnt),(352,.cmp),(117,.typeOf),(113,.valueOf),(114,.vType),(115,.isNil),(197,.vElem),(198,.vSet),(515,.assg),(516,.comp),(517,.tElem),(518,.impl),(501,.kind),(225,.same),(419,.mnz 5)]
theorem assocI_cons (a c:Nat) (v:IK) (l:List (Nat × IK)):zgy a ((c,v) :: l)=if Nat.beq a c=true then some v else zgy a l:=zay ..
theorem isT_ok {f:Nat} {i:List AV→H→Nat→K→RR} (hi:zop tabT (zgy f isT)=some i) (args:List AV) (h:H) (n:Nat) (k:K) (rr:RR) (hr:i args h n k=rr) (hne:rr≠.fail):CallLaw Tryz.prog f args h n k rr:=by
 unfold isT at hi
 have go:∀ {g:Nat} {z:IK},Nat.beq f g=true→zop tabT (some z)=some i→f=g∧i=intrK tabT z:=fun h1 h2=>⟨zak h1,by cases h2; rfl⟩
 rw [assocI_cons] at hi
 split at hi
 ·rename_i hb; obtain ⟨rfl,rfl⟩:=go hb hi; exact zvp ext466 hr hne
 rw [assocI_cons] at hi
 split at hi
 ·rename_i hb; obtain ⟨rfl,rfl⟩:=go hb hi; exact zvo ext446 hr hne
 rw [assocI_cons] at hi
 split at hi
 ·rename_i hb; obtain ⟨rfl,rfl⟩:=go hb hi; exact zvn ext352 hr hne
 rw [assocI_cons] at hi
 split at hi
 ·rename_i hb; obtain ⟨rfl,rfl⟩:=go hb hi; exact zoo tab_ok ext117 hr hne
 rw [assocI_cons] at hi
 split at hi
 ·rename_i hb; obtain ⟨rfl,rfl⟩:=go hb hi; exact zmw tab_ok ext113 hr hne
 rw [assocI_cons] at hi
 split at hi
 ·rename_i hb; obtain ⟨rfl,rfl⟩:=go hb hi; exact zrb tab_ok ext114 hr hne
 rw [assocI_cons] at hi
 split at hi
 ·rename_i hb; obtain ⟨rfl,rfl⟩:=go hb hi; exact zq7 tab_ok ext115 hr hne
 rw [assocI_cons] at hi
 split at hi
 ·rename_i hb; obtain ⟨rfl,rfl⟩:=go hb hi; exact zra tab_ok ext197 hr hne
 rw [assocI_cons] at hi
 split at hi
 ·rename_i hb; obtain ⟨rfl,rfl⟩:=go hb hi; exact zs3 tab_ok ext198 hr hne
 rw [assocI_cons] at hi
 split at hi
 ·rename_i hb; obtain ⟨rfl,rfl⟩:=go hb hi; exact zst tab_ok ext515 hr hne
 rw [assocI_cons] at hi
 split at hi
 ·rename_i hb; obtain ⟨rfl,rfl⟩:=go hb hi; exact zsu tab_ok ext516 hr hne
 rw [assocI_cons] at hi
 split at hi
 ·rename_i hb; obtain ⟨rfl,rfl⟩:=go hb hi; exact zq9 tab_ok ext517 hr hne
 rw [assocI_cons] at hi
 split at hi
 ·rename_i hb; obtain ⟨rfl,rfl⟩:=go hb hi; exact zsv tab_ok ext518 hr hne
 rw [assocI_cons] at hi
 split at hi
 ·rename_i hb; obtain ⟨rfl,rfl⟩:=go hb hi; exact zsy tab_ok ext501 hr hne
 rw [assocI_cons] at hi
 split at hi
 ·rename_i hb; obtain ⟨rfl,rfl⟩:=go hb hi; exact zs0 ext225 hr hne
 rw [assocI_cons] at hi
 split at hi
 ·rename_i hb; obtain ⟨rfl,rfl⟩:=go hb hi; exact zvq bsT ext419 hr hne
 cases hi
def maskT:Nat:=1608943498374327634769215277594095651004488386830874642753768954360377556171809902597768454670330874571875057701702229708628358162965765076938100279441485504
def bitM (f:Nat):Bool:=Nat.beq (Nat.land (Nat.shiftRight maskT f) 1) 1
def cxT (ex:Nat→Option (List AV→H→Nat→K→RR)):Cx:=reckM bitM ctL tabT isT ex iterL
def ExOk (ex:Nat→Option (List AV→H→Nat→K→RR)):Prop:=∀ f i,ex f=some i→∀ (args:List AV) (h:H) (n:Nat) (k:K) (rr:RR),i args h n k=rr→rr≠.fail→CallLaw Tryz.prog f args h n k rr
theorem cxT_ok {ex:Nat→Option (List AV→H→Nat→K→RR)} (hex:ExOk ex):CxOk Tryz.prog tbT (cxT ex):=by
 refine cx_ok tb_ok (fun f lf hf=>?_) iterL_ok fun f i hi args h n k rr hr hne=>?_
 ·have hf':zmx (ctL.get (f + 1))=some lf:=hf
  cases hg:ctL.get (f + 1) with
  | none=>rw [hg] at hf'; cases hf'
  | some o=>
   rw [hg] at hf'
   have h1:o=some lf:=hf'
   subst h1
   rw [← ctL_eq] at hg
   obtain ⟨lf',h2,h3⟩:=ctOf_mem codeL_small hg
   cases h2
   have h4:=low_all.mem _ h3
   have h5:=List.all_eq_true.1 goods _ h3
   unfold lowAt at h4
   unfold goodAt at h5
   simp only at h4 h5
   cases hfn:Tryz.prog.funcs[f]? with
   | none=>rw [hfn] at h4; cases h4
   | some fn=>rw [hfn] at h4 h5; exact ⟨fn,rfl,h4,h5⟩
 ·have hi0:br (bitM f) (match ex f with | some i=>some i | none=>zop tabT (zgy f isT)) none=some i:=hi
  obtain ⟨_,hi'⟩:=za3 hi0
  cases he:ex f with
  | some j=>
   rw [he] at hi'
   cases hi'
   exact hex f i he args h n k rr hr hne
  | none=>
   rw [he] at hi'
   exact isT_ok hi' args h n k rr hr hne
theorem callable158:zgx Tryz.prog 158:=⟨_,Tryz.func158,by kernel_rfl,by kernel_rfl⟩
theorem und3:Tryz.prog.underlying 3=some (.int .i64):=by kernel_rfl
def ex0 (f:Nat):Option (List AV→H→Nat→K→RR):=br (Nat.beq f 158) (some (zlu 2)) none
theorem ex0_ok:ExOk ex0:=fun f i hi args h n k rr hr hne=>by
 unfold ex0 at hi
 obtain ⟨h1,h2⟩:=za3 hi
 have:=zak h1; subst this
 cases h2
 exact zoa und3 Tryz.ch callable158 hr hne
theorem run_ok {ex:Nat→Option (List AV→H→Nat→K→RR)} (hex:ExOk ex) (d:Nat):zem Tryz.prog (lv (cxT ex) d).call:=lv_ok tb_ok mixed (cxT_ok hex) d
end
end
end Go.Proofs
