/- A part of a proof of a given law of this program: lemmas, printed forms of its functions, contracts. It has no conditions of its own. -/
import Derived.Test.YtlnohlefimgdnaaGreatDoorProg
import Derived.Test.YtlnohlefimgdnaaGreatDoorME3

set_option maxHeartbeats 16000000
set_option linter.unusedVariables false
set_option linter.unusedSimpArgs false
section
namespace Go.Fw
open Go Go.Fw Go.Proofs
set_option maxRecDepth 1000000
theorem XwL:XOk Tryz.prog (Xs 361 313 365 143 219 218 167 5):=
  XwK (t:=23) (ps:=#[3]) ⟨_,Tryz.func361,by kernel_rfl,by kernel_rfl,by kernel_rfl,by kernel_rfl⟩ ⟨_,Tryz.func313,by kernel_rfl,by kernel_rfl,by kernel_rfl,by kernel_rfl⟩ ⟨_,Tryz.func365,by kernel_rfl,by kernel_rfl,by kernel_rfl,by kernel_rfl⟩ (by kernel_rfl)
    ⟨_,Tryz.func143,by kernel_rfl,by kernel_rfl,by kernel_rfl,by kernel_rfl⟩ ⟨_,Tryz.func219,by kernel_rfl,by kernel_rfl,by kernel_rfl,by kernel_rfl⟩ ⟨_,Tryz.func218,by kernel_rfl,by kernel_rfl,by kernel_rfl,by kernel_rfl⟩ ⟨_,Tryz.func167,by kernel_rfl,by kernel_rfl,by kernel_rfl,by kernel_rfl⟩
noncomputable def XhU:Xv:=evN Tryz.prog (Xs 361 313 365 143 219 218 167 5) 2000 (fun E nt=>Xnn Tryz.prog E nt) 60
theorem Xsk:Yi Tryz.prog XhU:=Xnj (by kernel_rfl) XwL (fun _ hE _=>Xsh hE) 60
end Go.Fw
end

section
namespace Go.Fw
open Go Go.Fw Go.Proofs
set_option maxRecDepth 1000000
theorem Xq3:(match XhU (.f 4) [] ⟨0,.all⟩ with | some (.bool b,_)=>b | _=>false)=true:=by kernel_rfl
theorem XtH:∃ H',XhU (.f 4) [] ⟨0,.all⟩=some (.bool true,H'):=by
  have h:=Xq3
  revert h
  generalize XhU (.f 4) [] ⟨0,.all⟩=x
  intro h
  split at h
  · rename_i b H'; exact ⟨H',by rw [h]⟩
  · cases h
theorem alive_c {w:World} {K:VWP} (hk:∀ w',Fr [] w w'→K (.bool true) w'):Xa Tryz.prog 4 #[] w K:=by
  obtain ⟨H',h⟩:=XtH
  exact Xo1 Xsk h rfl hk
end Go.Fw
end
