/- A stub: in this seat's cut there is no stonecropref03.Put; what stands on it here needs these texts alone. -/
import Derived.Test.YtekbebekihcnpaaDoorItem
import Derived.Test.YtekbebekihcnpaaDoorTreeB
import Derived.Test.YtekbebekihcnpaaDoorText
