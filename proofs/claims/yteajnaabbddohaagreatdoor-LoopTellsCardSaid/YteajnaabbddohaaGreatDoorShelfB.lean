/- Further contracts of the shelf: none. -/
import Derived.Test.YteajnaabbddohaaGreatDoorShelf
