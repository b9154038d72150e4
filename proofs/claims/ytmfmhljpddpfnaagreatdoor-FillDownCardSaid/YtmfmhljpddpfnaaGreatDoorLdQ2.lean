/- The package-level variables of the rows of the great door: a world that meets the rows' condition; one part of that. Own work, after the guide's worked examples. -/
import Derived.Test.YtmfmhljpddpfnaaGreatDoorLdQ1
import Derived.Test.YtmfmhljpddpfnaaGreatDoorGAm23Am35
import Derived.WalkKit
import Derived.ProofKit
import Derived.OpenShut
import Derived.ShutString
import Derived.ChangeOld
import Derived.ChangeSame
import Derived.ChangeVars
import Derived.JoinedOf
import Derived.RowKit
import Derived.RowKitTokens
import Derived.LaidLaws
import Derived.LaidHandle
import Derived.LaidByTextLater
import Derived.Stop.Joined
import Derived.Below
import Derived.Carry
set_option maxRecDepth 100000
set_option linter.all false
namespace Go.Proofs.YtmfmhljpddpfnaaGreatDoor
open Go.ChangeShapes Go.WideShapes Go.RowKit Go.AM
theorem laid2 (os:Os) (args:Array Value):(DataW.laidRun Tryz.prog ((zGO os).forCall (fun _ _=>0) ⟨#[],args,[]⟩).memory 8 (zJS.map (·.1))).map (fun x=>decide x.2.Nodup&&laidRowsB Tryz.prog ((zGO os).forCall (fun _ _=>0) ⟨#[],args,[]⟩).memory x.2)=some true:=by kernel_rfl
end Go.Proofs.YtmfmhljpddpfnaaGreatDoor
