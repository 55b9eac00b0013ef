/- No type of this seat's laws wants a reading of its own. No conditions. -/
import Derived.Test.YtageaahlkiaigaaDoorPx0
import Derived.Test.YtageaahlkiaigaaDoorOpen
