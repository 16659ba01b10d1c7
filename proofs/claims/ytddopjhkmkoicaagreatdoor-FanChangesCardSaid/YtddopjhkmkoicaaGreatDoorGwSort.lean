/- slices.Sort and slices.Compact of strings: in their own memory. -/
import Derived.Test.YtddopjhkmkoicaaGreatDoorGwDel
import Derived.Sort.Grow
import Derived.Sort.EncStr
/- slices.Sort and slices.Compact of strings: in their own memory. -/
namespace Lv
open Go Go.Sort
set_option linter.unusedVariables false
set_option linter.unusedSimpArgs false
set_option linter.unusedSectionVars false
variable [BaseTab]
theorem CallAt.frzA {P : Program} {f : FuncId} {args : List AV} {σ σ1 σ2 : List Ob} {cs : List AV} {ys : List D} (h : CallAt P f args σ (.agg cs) σ1) (k : Lv.frzs σ1 cs = some (ys, σ2)) : CallAt P f args σ (.d (.agg ys)) σ2 := by
 intro ro μ w cargs g hdom hV
 refine (h ro μ w cargs g hdom hV).mono ?_
 rintro e w' ⟨v, ro', μ', he, hv, g', e', d', q'⟩
 obtain ⟨C, rfl, hvs⟩ := VR_aggc hv rfl
 obtain ⟨ro1, g1, e1, hlen, hd, _, s1⟩ := frzs_sound _ (vs := C.toList) g' (by simpa using hvs.size) (fun j z u hz hu => hvs.get j z u hz (by simpa using hu)) k
 exact ⟨_, ro1, μ', he, .d _ _ (.agg _ C (by rw [hvs.size, hlen]) (fun j z u hz hu => hd j z u hz (by simpa using hu))), g1, e'.trans e1.to0, fun id L hL => by rw [s1]; exact d' id L hL, q'⟩
end Lv
