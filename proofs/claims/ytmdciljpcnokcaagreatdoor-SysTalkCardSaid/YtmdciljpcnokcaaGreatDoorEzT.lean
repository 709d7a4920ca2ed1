/-
  hibernaclelaw29.SysTalk returns true of any data.
-/
import Derived.Test.YtmdciljpcnokcaaGreatDoorEzQ
import Derived.Test.YtmdciljpcnokcaaGreatDoorEzO1
import Derived.Test.YtmdciljpcnokcaaGreatDoorEzO2
import Derived.Test.YtmdciljpcnokcaaGreatDoorEzO3
import Derived.Test.YtmdciljpcnokcaaGreatDoorEzO4
import Derived.Test.YtmdciljpcnokcaaGreatDoorEzO5
import Derived.Test.YtmdciljpcnokcaaGreatDoorEzO6
import Derived.Test.YtmdciljpcnokcaaGreatDoorEzO7
import Derived.Test.YtmdciljpcnokcaaGreatDoorEzO8
import Derived.Test.YtmdciljpcnokcaaGreatDoorEzO9
import Derived.Test.YtmdciljpcnokcaaGreatDoorEzO10
namespace Go.Proofs.YtmdciljpcnokcaaGreatDoor.Ex
open Go.RowKit
theorem talkLaw_any (l : List UInt8) (w : World) : Calls Go.Proofs.Tryz.prog 3 #[S l] w fun e w' => e = .returned (.bool true) ∧ Below w.heap.size w w' := by
  by_cases h : l.length < 1 ∨ 60 < l.length
  · exact talk_none l h w
  · have h1 : 1 ≤ l.length ∧ l.length ≤ 60 := by omega
    clear h
    match hn : l.length, h1 with
    | 0, h => omega
    | 1, _ => exact talk_gen pack1 talk1 (by decide) l hn w
    | 2, _ => exact talk_gen pack2 talk2 (by decide) l hn w
    | 3, _ => exact talk_gen pack3 talk3 (by decide) l hn w
    | 4, _ => exact talk_gen pack4 talk4 (by decide) l hn w
    | 5, _ => exact talk_gen pack5 talk5 (by decide) l hn w
    | 6, _ => exact talk_gen pack6 talk6 (by decide) l hn w
    | 7, _ => exact talk_gen pack7 talk7 (by decide) l hn w
    | 8, _ => exact talk_gen pack8 talk8 (by decide) l hn w
    | 9, _ => exact talk_gen pack9 talk9 (by decide) l hn w
    | 10, _ => exact talk_gen pack10 talk10 (by decide) l hn w
    | 11, _ => exact talk_gen pack11 talk11 (by decide) l hn w
    | 12, _ => exact talk_gen pack12 talk12 (by decide) l hn w
    | 13, _ => exact talk_gen pack13 talk13 (by decide) l hn w
    | 14, _ => exact talk_gen pack14 talk14 (by decide) l hn w
    | 15, _ => exact talk_gen pack15 talk15 (by decide) l hn w
    | 16, _ => exact talk_gen pack16 talk16 (by decide) l hn w
    | 17, _ => exact talk_gen pack17 talk17 (by decide) l hn w
    | 18, _ => exact talk_gen pack18 talk18 (by decide) l hn w
    | 19, _ => exact talk_gen pack19 talk19 (by decide) l hn w
    | 20, _ => exact talk_gen pack20 talk20 (by decide) l hn w
    | 21, _ => exact talk_gen pack21 talk21 (by decide) l hn w
    | 22, _ => exact talk_gen pack22 talk22 (by decide) l hn w
    | 23, _ => exact talk_gen pack23 talk23 (by decide) l hn w
    | 24, _ => exact talk_gen pack24 talk24 (by decide) l hn w
    | 25, _ => exact talk_gen pack25 talk25 (by decide) l hn w
    | 26, _ => exact talk_gen pack26 talk26 (by decide) l hn w
    | 27, _ => exact talk_gen pack27 talk27 (by decide) l hn w
    | 28, _ => exact talk_gen pack28 talk28 (by decide) l hn w
    | 29, _ => exact talk_gen pack29 talk29 (by decide) l hn w
    | 30, _ => exact talk_gen pack30 talk30 (by decide) l hn w
    | 31, _ => exact talk_gen pack31 talk31 (by decide) l hn w
    | 32, _ => exact talk_gen pack32 talk32 (by decide) l hn w
    | 33, _ => exact talk_gen pack33 talk33 (by decide) l hn w
    | 34, _ => exact talk_gen pack34 talk34 (by decide) l hn w
    | 35, _ => exact talk_gen pack35 talk35 (by decide) l hn w
    | 36, _ => exact talk_gen pack36 talk36 (by decide) l hn w
    | 37, _ => exact talk_gen pack37 talk37 (by decide) l hn w
    | 38, _ => exact talk_gen pack38 talk38 (by decide) l hn w
    | 39, _ => exact talk_gen pack39 talk39 (by decide) l hn w
    | 40, _ => exact talk_gen pack40 talk40 (by decide) l hn w
    | 41, _ => exact talk_gen pack41 talk41 (by decide) l hn w
    | 42, _ => exact talk_gen pack42 talk42 (by decide) l hn w
    | 43, _ => exact talk_gen pack43 talk43 (by decide) l hn w
    | 44, _ => exact talk_gen pack44 talk44 (by decide) l hn w
    | 45, _ => exact talk_gen pack45 talk45 (by decide) l hn w
    | 46, _ => exact talk_gen pack46 talk46 (by decide) l hn w
    | 47, _ => exact talk_gen pack47 talk47 (by decide) l hn w
    | 48, _ => exact talk_gen pack48 talk48 (by decide) l hn w
    | 49, _ => exact talk_gen pack49 talk49 (by decide) l hn w
    | 50, _ => exact talk_gen pack50 talk50 (by decide) l hn w
    | 51, _ => exact talk_gen pack51 talk51 (by decide) l hn w
    | 52, _ => exact talk_gen pack52 talk52 (by decide) l hn w
    | 53, _ => exact talk_gen pack53 talk53 (by decide) l hn w
    | 54, _ => exact talk_gen pack54 talk54 (by decide) l hn w
    | 55, _ => exact talk_gen pack55 talk55 (by decide) l hn w
    | 56, _ => exact talk_gen pack56 talk56 (by decide) l hn w
    | 57, _ => exact talk_gen pack57 talk57 (by decide) l hn w
    | 58, _ => exact talk_gen pack58 talk58 (by decide) l hn w
    | 59, _ => exact talk_gen pack59 talk59 (by decide) l hn w
    | 60, _ => exact talk_gen pack60 talk60 (by decide) l hn w
    | n + 61, h => omega
end Go.Proofs.YtmdciljpcnokcaaGreatDoor.Ex
