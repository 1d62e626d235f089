/-
  AuditNil: the heaps at the last look, and runs over them.
-/
import Derived.Test.YtekflbnfagldcaaGreatDoorFacts
import Derived.Test.YtekflbnfagldcaaGreatDoorCoreB
import Derived.Test.YtekflbnfagldcaaGreatDoorRanWp
namespace Go.Proofs.YtekflbnfagldcaaGreatDoor
open Go Ev

noncomputable def sec1 : ByteArray := mkS (ubs 256 126238304966058622268417487065116999845484776053576109500509161826268184136202698801551568013761380717534054534851164138648904527931605160527688095259563605939964364716019515983399209962459578542172100149937763938581219604072733422507180056009672540900709554109516816573779593326332288314873251559077853068444977864803391962580800682760017849589281937637993445539366428356761821065267423102149447628375691862210717202025241630303118559188678304314076943801692528246980959705901641444238894928620825482303431806955690226308773426829503900930529395181208739591967195841536053143145775307050594328881077553172496515329)
noncomputable def sec0 : ByteArray := mkS (ubs 256 126238304966058622268417487065116999845484776053576109500509161826268184136202698801551568013761380717534054534851164138648904527931605160527688095259563605939964364716019515983399209962459578542172100149937763938581219604072733422507180056009672540900709554109516816573779593326332288314873251559077853068444977864803391962580800682760017849589281937637993445539366428356761821065267423102149447628375691862210717202025241630303118559188678304314076943801692528246980959705901641444238894928620825482303431806955690226308773426829503900930529395181208739591967195841536053143145775307050594328881077553172496581121)
noncomputable def auB0 : List (Nat × AObj) := [
  (17, .map [(nu 1, .string sec1)]), (18, .map []), (19, .cells [sy 5, .map (some 17), .map (some 18), .slice (some ⟨98, 0, none⟩) 0 (OPEN + 1), nu (-1), .bool false, nu 1] 77 false),
  (98, .cells [nu 0, .string (mkS [])] 185 true)]
noncomputable def auB1 : List (Nat × AObj) := auB0 ++ [
  (101, .map []), (102, .cells [sy 5, .map (some 103), .map (some 101), .slice none 0 0, nu (-1), .bool false, nu 0] 77 false), (103, .map [(nu 1, .string sec1)])]
noncomputable def auB2 : List (Nat × AObj) := auB0 ++ [
  (101, .map []), (102, .cells [sy 5, .map (some 103), .map (some 101), .slice (some ⟨172, 0, none⟩) 0 (OPEN + 1), nu (-1), .bool false, nu 1] 77 false), (103, .map [(nu 0, .string sec0), (nu 1, .string sec1)]),
  (131, .cells [.pointer (some ⟨102, 0, none⟩), sy 0, nu 2, nu 1, nu 0, nu 1, nu 0, .slice none 0 0, nu 0, nu 0, nu 0, .bool false] 92 false), (172, .cells [nu 0, .string (mkS [])] 185 true)]
noncomputable def openFacts : List (Nat × Value × Value × Value) :=
  [(1, nu 0, sy 0, .bool true), (10, nu 0, sy 0, nu 0), (1, sy 0, nu 8, .bool false), (3, sy 0, nu 1024, .bool false), (7, nu 2, sy 0, sy 3), (1, sy 5, sy 3, .bool false), (4, nu 2, sy 5, .bool false), (4, nu 0, sy 5, .bool false), (4, nu 1, sy 5, .bool false)]
/-- Of a sector's number (a symbol): it is one of the disk's, and neither of the master record's. -/
noncomputable def secFacts (i : Nat) (r : List (Nat × Value × Value × Value)) : List (Nat × Value × Value × Value) :=
  (1, sy i, nu 0, .bool false) :: (4, sy i, sy 5, .bool false) :: (5, sy i, nu 0, .bool false) :: (5, sy i, nu 1, .bool false) :: (5, sy i, nu (-1), .bool false) :: r
noncomputable def loadFacts : List (Nat × Value × Value × Value) :=
  (1, sy 3, nu 0, .bool false) :: (3, sy 3, nu 4096, .bool false) :: (1, sy 7, nu 0, .bool false) :: (3, sy 7, nu 4096, .bool false) :: (9, nu 2, sy 7, sy 8) :: (7, sy 3, sy 8, sy 9) :: (7, sy 9, nu 0, sy 9) :: (7, sy 9, nu 1, sy 10) :: secFacts 9 (secFacts 10 [])
noncomputable def d1 : Value := .pointer (some ⟨102, 0, none⟩)
theorem run_copied : coreRun auB1 d1 (evCall T0 4 F0 X0 1000 100 (.fn 31 [.pointer (some ⟨19, 0, none⟩)]) (coreH auB0 100 [])) = true := by kernel_rfl
theorem run_open : coreRun auB2 (.tuple ⟨[.pointer (some ⟨131, 0, none⟩), nu 0]⟩) (evCall T0 4 F0 X0 1000 100 (.fn 32 [d1, sy 0]) (coreH auB1 105 openFacts)) = true := by kernel_rfl
theorem run_load : coreRun auB2 (.tuple ⟨[.agg ⟨[nu 0, .slice none 0 0]⟩, nu 0, nu 0]⟩) (evCall T0 4 F0 X0 1000 100 (.fn 33 [d1, sy 3, sy 7]) (coreH auB2 174 loadFacts)) = true := by kernel_rfl
theorem run_inc : coreRun auB2 (nu 1) (evCall T0 4 F0 X0 1000 100 (.fn 11 [.pointer (some ⟨131, 0, none⟩)]) (coreH auB2 174 [])) = true := by kernel_rfl
theorem run_first : coreRun auB2 (nu 1) (evCall T0 4 F0 X0 1000 100 (.fn 12 [.pointer (some ⟨131, 0, none⟩)]) (coreH auB2 174 [])) = true := by kernel_rfl
theorem run_last : coreRun auB2 (nu 0) (evCall T0 4 F0 X0 1000 100 (.fn 13 [.pointer (some ⟨131, 0, none⟩)]) (coreH auB2 174 [])) = true := by kernel_rfl
theorem run_check : coreRun auB2 (nu 0) (evCall T0 4 F0 X0 1000 100 (.fn 14 [.pointer (some ⟨131, 0, none⟩)]) (coreH auB2 174 [])) = true := by kernel_rfl
theorem run_read : bytesRun auB2 175 (u8s 256 0) [nu 0] (evCall T0 4 F0 X0 1000 100 (.fn 35 [d1, sy 9]) (coreH auB2 174 (secFacts 9 []))) = true := by kernel_rfl
noncomputable def shapeOk : List (Nat × Value × Value × Value) :=
  [(1, sy 0, nu 64, .bool false), (3, sy 0, nu 1024, .bool false), (1, sy 1, nu 1, .bool false), (3, sy 1, nu 64, .bool false), (1, sy 2, nu 1, .bool false), (3, sy 2, nu 64, .bool false), (7, nu 2, sy 0, sy 3), (9, nu 2, sy 1, sy 4), (7, sy 3, sy 4, sy 5)]
theorem run_shape : coreRun auB0 (nu 0) (evCall T0 4 F0 X0 1000 100 (.fn 29 [.agg ⟨[sy 0, sy 1, sy 2]⟩]) (coreH auB0 100 shapeOk)) = true := by kernel_rfl
theorem run_sectors : coreRun auB0 (sy 5) (evCall T0 4 F0 X0 1000 100 (.fn 25 [.agg ⟨[sy 0, sy 1, sy 2]⟩]) (coreH auB0 100 shapeOk)) = true := by kernel_rfl
theorem run_dsectors : coreRun auB0 (sy 5) (evCall T0 4 F0 X0 1000 100 (.fn 30 [.pointer (some ⟨19, 0, none⟩)]) (coreH auB0 100 [])) = true := by kernel_rfl
theorem low0 : lowB 100 7 auB0 = true := by kernel_rfl
theorem low1 : lowB 105 7 auB1 = true := by kernel_rfl
theorem low2 : lowB 174 7 auB2 = true := by kernel_rfl
theorem self0 : baseOk (coreH auB0 100 []) auB0 = true := by kernel_rfl
theorem self1 : baseOk (coreH auB1 105 []) auB1 = true := by kernel_rfl
theorem self2 : baseOk (coreH auB2 174 []) auB2 = true := by kernel_rfl
end Go.Proofs.YtekflbnfagldcaaGreatDoor
