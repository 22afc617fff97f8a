/- Part 33 of what the proof stands on: KnStepB. -/
import Derived.Test.YtaangaogmnlljaaGreatDoorP28
set_option linter.unusedVariables false
set_option maxRecDepth 100000
namespace Go.Proofs.YtaangaogmnlljaaGreatDoor.Kn
open Go.RowKit Asm
section
variable {w:World} {own:Own} {b o:Nat} {t:TypeId} {P S:List Value} {tb tk:Tag} {n:Nat} {f:Frame} {bv:Value}
theorem InsBox.far {W:World} {bx b j:Nat} {x:InsL} {v:Value} (h:InsBox W bx x) (hne:bx≠b):InsBox (W.setCell ⟨b,j,none⟩ v) bx x:=by
 have q: ∀i u,W.cell? ⟨bx,i,none⟩=some u→(W.setCell ⟨b,j,none⟩ v).cell? ⟨bx,i,none⟩=some u:=fun i u hu=>(World.cell?_of_block (a:=⟨bx,i,none⟩) (set_other (p:=⟨b,j,none⟩) hne)).trans hu
 obtain ⟨h0,h1,h2,h3,h4,h5,h6⟩:=h
 exact ⟨q _ _ h0,q _ _ h1,q _ _ h2,q _ _ h3,q _ _ h4,q _ _ h5,q _ _ h6⟩
end
end Go.Proofs.YtaangaogmnlljaaGreatDoor.Kn
